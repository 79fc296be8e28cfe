/- AcceptChosen. -/
import Derived.Test.YtgkhkcoojfjofaaDoorChoW
set_option linter.unusedVariables false
set_option linter.unusedSimpArgs false
namespace Go.Proofs.YtgkhkcoojfjofaaDoor
open Go.RowKit Go.Shelf Go.Proofs.YtgkhkcoojfjofaaDoorW.PrintWords Go.Proofs.Mine

theorem tmod_fix (a n : Int) (hn : 0 < n) : (if a.tmod n < 0 then a.tmod n + n else a.tmod n) = a % n := by
  have h1 := Int.tmod_add_mul_tdiv a n
  have h2 := Int.emod_add_mul_ediv a n
  rw [Int.tmod_eq_emod]
  have h3 := Int.emod_nonneg a (show n ≠ 0 by omega)
  have h4 := Int.emod_lt_of_pos a hn
  split <;> split <;> omega
theorem infoP : (Tryd.prog.info? 24).map (fun i => (i.zero, i.size, i.bytes)) = some (some (.pointer none), 1, 8) := by kernel_rfl
theorem encP_one (b : Nat) : (encP b).oneCell' = true := rfl
set_option maxRecDepth 100000 in
set_option maxHeartbeats 2000000 in
theorem within_any (a n : Int) (w : World) (hn : 0 < n) (hn2 : n ≤ 4611686018427387904) :
    Calls Tryd.prog 16 #[.int .i64 a, .int .i64 n] w fun e w' => e = .returned (.int .i64 (a % n)) ∧ w = w' := by
  have H := Lib.hid (tmod_fix a n hn)
  have h1 : -n < a.tmod n := by
    have := Int.tmod_eq_emod (a := a) (b := n)
    have h3 := Int.emod_nonneg a (show n ≠ 0 by omega)
    have h4 := Int.emod_lt_of_pos a hn
    split at this <;> omega
  have h0 : (n == 0) = false := by simp; omega
  by_cases hs : a.tmod n < 0
  · have hf : a.tmod n + n = a % n := by have := H.out; rwa [if_pos hs] at this
    have HF := Lib.hid hf
    clear hf H
    go_enter Tryd.func16, Tryd.ntmps16
    go_wp2
    go_ret
    exact ⟨by rw [HF.out]; rfl, rfl⟩
  · have hf : a.tmod n = a % n := by have := H.out; rwa [if_neg hs] at this
    have HF := Lib.hid hf
    clear hf H
    go_enter Tryd.func16, Tryd.ntmps16
    go_wp2
    go_ret
    exact ⟨by rw [HF.out]; rfl, rfl⟩
theorem AccAt.lower_none {w : World} {base base' b : Nat} {F : Nat → Prop} {p : Int} (h : AccAt w base F b p none) (hb : base' ≤ base) : AccAt w base' F b p none := by
  obtain ⟨h1, h2, m, h3, h4, h5, h6, h7, h8⟩ := h
  exact ⟨h1, fun k hk => ⟨Nat.le_trans hb (h2 k hk).1, (h2 k hk).2⟩, m, h3, h4, h5, h6, h7, fun x hx => by cases hx⟩
def st0 : Nat → AcS := fun _ => ⟨0, none⟩
/-- One acceptor more. -/
theorem Accs.more {w : World} {base i b : Nat} {bs : List Nat} {Fs : Nat → Nat → Prop} {F : Nat → Prop} (h : Accs w base i bs Fs st0) (ha : AccAt w base F b 0 none) (hf : ∀ j, j < i → ∀ k, Fs j k → ¬ F k) : Accs w base (i + 1) (bs ++ [b]) (fun j => if j < i then Fs j else F) st0 := by
  have hl := h.len
  refine ⟨by rw [List.length_append, hl]; rfl, fun j hj => ?_, fun a ha' c hc hac k hk hk' => ?_⟩
  · by_cases e : j < i
    · simp only [if_pos e]
      rw [show (bs ++ [b]).getD j 0 = bs.getD j 0 from by simp only [List.getD_eq_getElem?_getD]; rw [List.getElem?_append_left (by omega)]]
      exact h.each j e
    · obtain rfl : j = i := by omega
      simp only [if_neg e]
      rw [show (bs ++ [b]).getD j 0 = b from by simp only [List.getD_eq_getElem?_getD]; rw [List.getElem?_append_right (by omega), hl, Nat.sub_self]; rfl]
      exact ha
  · by_cases e : a < i <;> by_cases e2 : c < i
    · simp only [if_pos e, if_pos e2] at hk hk'
      exact h.apart a e c e2 hac k hk hk'
    · simp only [if_pos e] at hk
      simp only [if_neg e2] at hk'
      exact hf a e k hk hk'
    · simp only [if_neg e] at hk
      simp only [if_pos e2] at hk'
      exact hf c e2 k hk' hk
    · omega
def prS (b : Int) (R : Nat → Bool) (st : Nat → AcS) (i : Nat) : Nat → AcS := fun j => if j < i ∧ R j = true then ⟨b, (st j).o⟩ else st j
theorem prS_zero (b : Int) (R : Nat → Bool) (st : Nat → AcS) : prS b R st 0 = st := by
  funext j
  unfold prS
  rw [if_neg (by omega)]
theorem cnt_congr {P Q : Nat → Bool} {n : Nat} (h : ∀ m, m < n → P m = Q m) : Cho.cnt P n = Cho.cnt Q n := by
  have h1 := Cho.cnt_mono (P := P) (Q := Q) (n := n) (fun m hm e => by rw [← h m hm]; exact e)
  have h2 := Cho.cnt_mono (P := Q) (Q := P) (n := n) (fun m hm e => by rw [h m hm]; exact e)
  omega
def plus (R : Nat → Bool) (j : Nat) : Nat → Bool := fun m => m == j || R m
theorem plus_lt {R : Nat → Bool} {j m : Nat} (h : m < j) : plus R j m = R m := by
  unfold plus
  rw [show (m == j) = false from beq_eq_false_iff_ne.mpr (by omega), Bool.false_or]
theorem plus_self (R : Nat → Bool) (j : Nat) : plus R j j = true := by unfold plus; simp
theorem cnt_plus (R : Nat → Bool) (j : Nat) : Cho.cnt (plus R j) (j + 1) = Cho.cnt R j + 1 := by
  show Cho.cnt (plus R j) j + (if plus R j j = true then 1 else 0) = _
  rw [if_pos (plus_self R j), cnt_congr (fun m hm => plus_lt hm)]
theorem cnt_no {R : Nat → Bool} {j : Nat} (h : R j = false) : Cho.cnt R (j + 1) = Cho.cnt R j := by
  show Cho.cnt R j + (if R j = true then 1 else 0) = _
  rw [h]; rfl
theorem prS_plus (b : Int) (R : Nat → Bool) (st : Nat → AcS) (j : Nat) : prS b (plus R j) st (j + 1) = fun m => if m = j then ⟨b, (prS b R st j j).o⟩ else prS b R st j m := by
  funext m
  have ho : (prS b R st j j).o = (st j).o := by unfold prS; rw [if_neg (by omega)]
  by_cases e : m = j
  · subst e
    rw [if_pos rfl, ho]
    unfold prS
    rw [if_pos ⟨by omega, plus_self R m⟩]
  · rw [if_neg e]
    unfold prS
    by_cases e2 : m < j
    · rw [plus_lt e2]
      by_cases e3 : R m = true
      · rw [if_pos ⟨by omega, e3⟩, if_pos ⟨e2, e3⟩]
      · rw [if_neg (fun h => e3 h.2), if_neg (fun h => e3 h.2)]
    · rw [if_neg (by omega), if_neg (by omega)]
theorem prS_no {b : Int} {R : Nat → Bool} {st : Nat → AcS} {j : Nat} (h : R j = false) : prS b R st (j + 1) = prS b R st j := by
  funext m
  unfold prS
  by_cases e : m = j
  · subst e
    rw [if_neg (fun h2 => by rw [h] at h2; cases h2.2), if_neg (by omega)]
  · by_cases e2 : m < j
    · by_cases e3 : R m = true
      · rw [if_pos ⟨by omega, e3⟩, if_pos ⟨e2, e3⟩]
      · rw [if_neg (fun h => e3 h.2), if_neg (fun h => e3 h.2)]
    · rw [if_neg (by omega), if_neg (by omega)]
theorem prS_at (b : Int) (R : Nat → Bool) (st : Nat → AcS) (j : Nat) : prS b R st j j = st j := by unfold prS; rw [if_neg (by omega)]
/-- The votes that are told. -/
def vup (R : Nat → Bool) (st : Nat → AcS) : Nat → List Vo
  | 0 => []
  | i + 1 => vup R st i ++ (if R i = true then votesL (st i).o else [])
theorem vup_congr {R Q : Nat → Bool} {st : Nat → AcS} {n : Nat} (h : ∀ m, m < n → R m = Q m) : vup R st n = vup Q st n := by
  induction n with
  | zero => rfl
  | succ n ih =>
    show vup R st n ++ _ = vup Q st n ++ _
    rw [ih (fun m hm => h m (by omega)), h n (by omega)]
theorem vup_plus (R : Nat → Bool) (st : Nat → AcS) (j : Nat) : vup (plus R j) st (j + 1) = vup R st j ++ votesL (st j).o := by
  show vup (plus R j) st j ++ (if plus R j j = true then votesL (st j).o else []) = _
  rw [if_pos (plus_self R j), vup_congr (fun m hm => plus_lt hm)]
theorem vup_no {R : Nat → Bool} {st : Nat → AcS} {j : Nat} (h : R j = false) : vup R st (j + 1) = vup R st j := by
  show vup R st j ++ (if R j = true then votesL (st j).o else []) = _
  rw [h]; simp
theorem vup_of {R : Nat → Bool} {st : Nat → AcS} {n : Nat} {z : Vo} (h : z ∈ vup R st n) : ∃ m, m < n ∧ R m = true ∧ ∃ y, (st m).o = some y ∧ z = y.vo := by
  induction n with
  | zero => cases h
  | succ n ih =>
    rcases List.mem_append.1 (show z ∈ vup R st n ++ _ from h) with h | h
    · obtain ⟨m, hm, h2⟩ := ih h
      exact ⟨m, by omega, h2⟩
    · split at h
      · rename_i hr
        cases ho : (st n).o with
        | none => rw [ho] at h; cases h
        | some y => rw [ho] at h; exact ⟨n, by omega, hr, y, ho, List.mem_singleton.1 h⟩
      · cases h
theorem vup_in {R : Nat → Bool} {st : Nat → AcS} {n m : Nat} {y : Vh} (hm : m < n) (hr : R m = true) (ho : (st m).o = some y) : y.vo ∈ vup R st n := by
  induction n with
  | zero => omega
  | succ n ih =>
    show _ ∈ vup R st n ++ _
    by_cases e : m = n
    · subst e
      rw [if_pos hr, ho]
      exact List.mem_append_right _ (List.mem_singleton.2 rfl)
    · exact List.mem_append_left _ (ih (by omega))
theorem vup_len (R : Nat → Bool) (st : Nat → AcS) (n : Nat) : (vup R st n).length ≤ n := by
  induction n with
  | zero => exact Nat.le_refl _
  | succ n ih =>
    show (vup R st n ++ _).length ≤ _
    rw [List.length_append]
    split
    · cases (st n).o <;> simp [votesL] <;> omega
    · simp; omega
def okF (n : Nat) (Ap : Option Addr) (Fs : Nat → Nat → Prop) (q : Nat) : Prop := (∀ m, m < n → ¬ Fs m q) ∧ ∀ a, Ap = some a → a.block ≠ q
theorem vrow_turn {wr w1 : World} {base i j : Nat} {Ap : Option Addr} {Fs Fs2 : Nat → Nat → Prop} {u : Value} {hv : List Vh} (hU : vhK.R 41 wr base (okF i Ap Fs) u hv) (hK : Keep (Fs j) wr w1) (hj : j < i) (hF : ∀ m, m < i → ∀ q, Fs2 m q → Fs m q ∨ wr.heap.size ≤ q) : vhK.R 41 w1 base (okF i Ap Fs2) u hv :=
  Kd.R_mono (Kd.R_step (Kd.R_bound hU) (fun q hq hlt => hK.block q hlt (hq.1.1 j hj))) (fun q hq => ⟨fun m hm hf => (hF m hm q hf).elim (hq.1.1 m hm) (fun e => by have := hq.2.2.1; omega), hq.1.2⟩)
theorem ab_prS {n : Nat} {b : Int} {R : Nat → Bool} {st : Nat → AcS} (h : ∀ m, m < n → R m = true → (st m).p ≤ b) : ab (prS b R st n) = Cho.prep b R (ab st) n := by
  funext m
  unfold ab Cho.prep
  by_cases e : m < n ∧ R m = true
  · have h1 : prS b R st n m = ⟨b, (st m).o⟩ := by unfold prS; rw [if_pos e]
    rw [h1, if_pos ⟨e.1, e.2, h m e.1 e.2⟩]
  · have h1 : prS b R st n m = st m := by unfold prS; rw [if_neg e]
    rw [h1, if_neg (fun h2 => e ⟨h2.1, h2.2.1⟩)]
theorem prS_o (b : Int) (R : Nat → Bool) (st : Nat → AcS) (n m : Nat) : (prS b R st n m).o = (st m).o := by unfold prS; split <;> rfl
theorem vup_mem {n : Nat} {R : Nat → Bool} {st : Nat → AcS} {hv : List Vh} (hP : Plainly n st) (h : hv.map Vh.vo = vup R st n) : ∀ x ∈ hv, x.s = 1 ∧ x.mem = [] := by
  intro x hx
  have h1 : x.vo ∈ vup R st n := by rw [← h]; exact List.mem_map.2 ⟨x, hx, rfl⟩
  obtain ⟨m, hm, _, y, hy, he⟩ := vup_of h1
  have h2 := hP m hm y hy
  have e1 : x.vo.s = y.vo.s := by rw [he]
  have e2 : x.vo.mem = y.vo.mem := by rw [he]
  exact ⟨(show x.s = y.s from e1).trans h2.1, (show x.mem = y.mem from e2).trans h2.2⟩
/-- What Pick finds. -/
theorem pick_law {n : Nat} {b : Int} {R : Nat → Bool} {st : Nat → AcS} {hv : List Vh} (hP : Plainly n st) (h : hv.map Vh.vo = vup R st n) :
    (pk hv 1 hv.length = none ∧ ∀ i, i < n → Cho.rdy b R (ab st) i = true → (ab st i).o = none) ∨ ∃ y, y.mem = [] ∧ best hv (pk hv 1 hv.length) = y ∧ (pk hv 1 hv.length).isSome = true ∧ ((∀ m, m < n → R m = true → (st m).p ≤ b) → ∃ j, j < n ∧ Cho.rdy b R (ab st) j = true ∧ ∃ bb, (ab st j).o = some (bb, y.q) ∧ ∀ i, i < n → Cho.rdy b R (ab st) i = true → ∀ b' v', (ab st i).o = some (b', v') → b' ≤ bb) := by
  rcases pk_max (l := hv) (slot := 1) (fun x hx => (vup_mem hP h x hx).1) hv.length (Nat.le_refl _) with ⟨h0, hn⟩ | ⟨j, y, hj, hy, hall⟩
  · refine .inl ⟨hn, fun i hi hr => ?_⟩
    have hnil : hv = [] := List.eq_nil_of_length_eq_zero h0
    subst hnil
    unfold Cho.rdy at hr
    simp only [Bool.and_eq_true] at hr
    cases ho : (st i).o with
    | none => unfold ab; simp [ho]
    | some z =>
      have := vup_in (n := n) hi hr.1 ho
      rw [← h] at this
      cases this
  · have hyin : y ∈ hv := List.mem_of_getElem? hy
    refine .inr ⟨y, (vup_mem hP h y hyin).2, by rw [hj]; exact best_some hy, by rw [hj]; rfl, fun hR => ?_⟩
    have h1 : y.vo ∈ vup R st n := by rw [← h]; exact List.mem_map.2 ⟨y, hyin, rfl⟩
    obtain ⟨m, hm, hRm, z, hz, he⟩ := vup_of h1
    have e1 : y.b = z.b := show y.vo.b = z.vo.b from by rw [he]
    have e2 : y.q = z.q := show y.vo.q = z.vo.q from by rw [he]
    refine ⟨m, hm, ?_, y.b, ?_, fun i hi hr b' v' ho => ?_⟩
    · unfold Cho.rdy
      rw [hRm, show decide ((ab st m).p ≤ b) = true from decide_eq_true (hR m hm hRm)]; rfl
    · unfold ab
      simp [hz, e1, e2]
    · unfold Cho.rdy at hr
      simp only [Bool.and_eq_true] at hr
      cases hz' : (st i).o with
      | none => unfold ab at ho; simp [hz'] at ho
      | some z' =>
        unfold ab at ho
        simp [hz'] at ho
        have := vup_in (n := n) hi hr.1 hz'
        rw [← h] at this
        obtain ⟨x, hx, hxe⟩ := List.mem_map.1 this
        have e3 : x.b = z'.b := show x.vo.b = z'.vo.b from by rw [hxe]
        have := hall x (by rw [List.take_length]; exact hx)
        omega
theorem rdy_cnt {n : Nat} {b : Int} {R : Nat → Bool} {st : Nat → AcS} (h : ∀ m, m < n → R m = true → (st m).p ≤ b) : Cho.cnt (Cho.rdy b R (ab st)) n = Cho.cnt R n := cnt_congr (fun m hm => by
  unfold Cho.rdy
  cases hr : R m with
  | false => rfl
  | true => rw [show decide ((ab st m).p ≤ b) = true from decide_eq_true (h m hm hr)]; rfl)
/-- How far the second half is. -/
structure Half (n j : Nat) (b v : Int) (R2 : Nat → Bool) (s1 st2 : Nat → AcS) : Prop where
  off : ∀ m, j ≤ m → R2 m = false
  le : ∀ m, m < j → R2 m = true → (s1 m).p ≤ b
  plain : Plainly n st2
  same : ∀ m, j ≤ m → st2 m = s1 m
  law : ab st2 = Cho.acc b v R2 (ab s1) j
theorem Half.start {n : Nat} {b v : Int} {s1 : Nat → AcS} (h : Plainly n s1) : Half n 0 b v (fun _ => false) s1 s1 :=
  ⟨fun _ _ => rfl, fun m hm => absurd hm (by omega), h, fun _ _ => rfl, by funext m; unfold Cho.acc; rw [if_neg (by omega)]⟩
theorem Half.no {n j : Nat} {b v : Int} {R2 : Nat → Bool} {s1 st2 : Nat → AcS} (h : Half n j b v R2 s1 st2) : Half n (j + 1) b v R2 s1 st2 :=
  ⟨fun m hm => h.off m (by omega), fun m hm hr => h.le m (by
    rcases Nat.lt_or_ge m j with h1 | h1
    · exact h1
    · rw [h.off m h1] at hr; cases hr) hr, h.plain, fun m hm => h.same m (by omega), by
    rw [h.law]
    funext m
    unfold Cho.acc
    by_cases e : m = j
    · subst e
      rw [if_neg (by omega), if_neg (fun h2 => by have h3 := h2.2.1; rw [h.off m (Nat.le_refl _)] at h3; cases h3)]
    · by_cases e2 : m < j
      · by_cases e3 : R2 m = true ∧ (ab s1 m).p ≤ b
        · rw [if_pos ⟨e2, e3⟩, if_pos ⟨by omega, e3⟩]
        · rw [if_neg (fun h2 => e3 h2.2), if_neg (fun h2 => e3 h2.2)]
      · rw [if_neg (by omega), if_neg (by omega)]⟩
theorem Half.yes {n j : Nat} {b v : Int} {R2 : Nat → Bool} {s1 st2 : Nat → AcS} (h : Half n j b v R2 s1 st2) (hp : (s1 j).p ≤ b) {y : Vh} (hy : y.s = 1 ∧ y.mem = [] ∧ y.b = b ∧ y.q = v) : Half n (j + 1) b v (plus R2 j) s1 (fun m => if m = j then ⟨b, some y⟩ else st2 m) :=
  ⟨fun m hm => by unfold plus; rw [h.off m (by omega), show (m == j) = false from beq_eq_false_iff_ne.mpr (by omega)]; rfl, fun m hm hr => by
    rcases Nat.lt_or_ge m j with h1 | h1
    · rw [plus_lt h1] at hr; exact h.le m h1 hr
    · obtain rfl : m = j := by omega
      exact hp, fun m hm z hz => by
    by_cases e : m = j
    · simp only [if_pos e] at hz
      injection hz with hz
      subst hz
      exact ⟨hy.1, hy.2.1⟩
    · simp only [if_neg e] at hz
      exact h.plain m hm z hz, fun m hm => by
    simp only [if_neg (show ¬ m = j by omega)]
    exact h.same m (by omega), by
    have hl := h.law
    funext m
    by_cases e : m = j
    · subst e
      have h1 : Cho.acc b v (plus R2 m) (ab s1) (m + 1) m = ⟨b, some (b, v)⟩ := by unfold Cho.acc; rw [if_pos ⟨by omega, plus_self R2 m, hp⟩]
      rw [h1]
      unfold ab
      simp [hy.2.2.1, hy.2.2.2]
    · have h1 : ab (fun m => if m = j then ⟨b, some y⟩ else st2 m) m = ab st2 m := by unfold ab; simp only [if_neg e]
      rw [h1, hl]
      unfold Cho.acc
      by_cases e2 : m < j
      · rw [plus_lt e2]
        by_cases e3 : R2 m = true ∧ (ab s1 m).p ≤ b
        · rw [if_pos ⟨e2, e3⟩, if_pos ⟨by omega, e3⟩]
        · rw [if_neg (fun h2 => e3 h2.2), if_neg (fun h2 => e3 h2.2)]
      · rw [if_neg (by omega), if_neg (by omega)]⟩
/-- The end of a round. -/
theorem round_end {n k : Nat} {st s1 st2 : Nat → AcS} {ch b v : Int} {R R2 : Nat → Bool} (hI : Cho.Inv n k (ab st) ch) (hb : 1 ≤ b) (hk : b % 26 = (k : Int)) (hR : ∀ m, m < n → R m = true → (st m).p ≤ b) (hs1 : ab s1 = Cho.prep b R (ab st) n) (hm : n < 2 * Cho.cnt R n)
    (hv : (∃ j, j < n ∧ Cho.rdy b R (ab st) j = true ∧ ∃ bb, (ab st j).o = some (bb, v) ∧ ∀ i, i < n → Cho.rdy b R (ab st) i = true → ∀ b' v', (ab st i).o = some (b', v') → b' ≤ bb) ∨ ((∀ i, i < n → Cho.rdy b R (ab st) i = true → (ab st i).o = none) ∧ v = (k : Int) + 1)) (h2 : Half n n b v R2 s1 st2) :
    Cho.Inv n (k + 1) (ab st2) (if n < 2 * Cho.cnt R2 n then v else ch) := by
  have h := (hI.round b v R R2 hb hk (by rw [rdy_cnt hR]; exact hm) hv).2.2
  rw [← hs1, rdy_cnt h2.le, ← h2.law] at h
  exact h
/-- What the rounds see. -/
structure Mid (w0 w : World) (n k : Nat) (A : Option Addr) (bs : List Nat) (ch : Int) : Prop where
  mid : ∃ Fs st, Accs w w0.heap.size n bs Fs st ∧ Plainly n st ∧ Cho.Inv n k (ab st) ch ∧ Ptrs w w0.heap.size n A bs Fs
  below : Below w0.heap.size w0 w
set_option maxRecDepth 100000 in
set_option maxHeartbeats 2000000 in
theorem chosen_any (n0 : Int) (A1 A2 A3 : Option Addr) (c1 c2 c3 : Nat) (lb lw lh : List Int) (w : World) (h1 : ReadsInt w .i64 A1 lb.length lb) (h2 : ReadsInt w .i64 A2 lw.length lw) (h3 : ReadsInt w .i64 A3 lh.length lh) :
    Calls Tryd.prog 7 #[.int .i64 n0, .slice A1 lb.length c1, .slice A2 lw.length c2, .slice A3 lh.length c3] w fun r w' => r = .returned (.bool true) ∧ Below w.heap.size w w' := by
  have H1 := Lib.hid h1
  have H2 := Lib.hid h2
  have H3 := Lib.hid h3
  have hm1 := h1.2.1
  have hm2 := h2.2.1
  have hm3 := h3.2.1
  clear h1 h2 h3
  go_enter Tryd.func7, Tryd.ntmps7
  go_wp2_with (first
    | (go_at_call 9; refine (known_any w).mono ?_; rintro r w0 ⟨rfl, hB0⟩; have HB0 := Lib.hid hB0; clear hB0)
    | (go_at_call 16; refine (within_any n0 3 w0 (by decide) (by decide)).mono ?_; rintro r w0' ⟨rfl, rfl⟩
       obtain ⟨q, hq⟩ : ∃ q : Nat, n0 % 3 = (q : Int) := ⟨(n0 % 3).toNat, by omega⟩
       have hq3 : q < 3 := by omega
       rw [hq]
       clear hq))
  obtain ⟨n, hn⟩ : ∃ n : Nat, n = 1 + 2 * q := ⟨_, rfl⟩
  rw [show (1 + 2 * (q : Int)) = (n : Int) from by omega]
  have hn1 : 1 ≤ n := by omega
  have hn5 : n ≤ 5 := by omega
  clear hn hq3
  go_loopw [9, 10] (fun u iv wr => ∃ (i : Nat) (bs : List Nat) (Fs : Nat → Nat → Prop), i ≤ n ∧ iv = .int .i64 (i : Int) ∧ RowKit.Hid (wr.ownsRow w0.heap.size 24 1 u bs.length (encs encP bs)) ∧ RowKit.Hid (Accs wr w0.heap.size i bs Fs st0) ∧ RowKit.Hid (∀ k, u.ownBlock = some k → ∀ j, j < i → ¬ Fs j k) ∧ RowKit.Hid (Below w0.heap.size w0 wr)) (fun _ iv _ => n - (intOf iv).toNat)
  case atStart => exact ⟨0, [], fun _ _ => False, by omega, rfl, Lib.hid (own_nil _ _ _ _), Lib.hid ⟨rfl, fun j hj => absurd hj (by omega), fun a ha => absurd ha (by omega)⟩, Lib.hid (fun k hk => by cases hk), Lib.hid (Below.refl _ _)⟩
  case round =>
    rename_i wr
    obtain ⟨i, bs, Fs, hi, rfl, HU, HA, HD, HBW⟩ := hrel
    by_cases hlt : i < n
    · have hlt2 : (i : Int) < (n : Int) := by omega
      have hbl : bs.length ≤ 5 := by have := HA.out.len; omega
      go_wp2_with (first
        | (at_builtin; refine print_append_of (w0 := w0) (W := w1) encP w0.heap.size rfl _ _ 60 24 (.pointer none) 8 rfl Tryd.underlying60 infoP rfl (by decide) u9 bs b rfl rfl rfl HU1.out HB1.out HB1.out.size (by omega) ?a1)
        | (go_at_call 10; refine (new_at wr).mono ?_; rintro r w1 ⟨b, F, rfl, hA1, hB1⟩
           have HN1 := Lib.hid hA1
           have HW1 := Lib.hid hB1
           have HU1 := Lib.hid (pw_own_below HU.out hB1)
           have HB1 := Lib.hid (HBW.out.trans (hB1.mono HBW.out.size))
           clear hA1 hB1))
      case a1 =>
        intro v2 w2 hown hB2 hg2 hat2
        have hk2 : Keep (fun k => u9.ownBlock = some k) w1 w2 := Keep.of_grown hg2 (fun k hk => hk)
        have hub : ∀ k, u9.ownBlock = some k → k < wr.heap.size := fun k hk => own_lt HU.out k hk
        have hN2 : AccAt w2 w0.heap.size F b 0 none := (HN1.out.keep hk2 (fun j hj hu => by have := hub j hu; have := (HN1.out.2.1 j hj).1; omega)).lower_none HBW.out.size
        have hA2 : Accs w2 w0.heap.size i bs Fs st0 := (HA.out.below HW1.out).keep hk2 (fun j hj k hk hu => HD.out k hu j hj hk)
        have hA3 := hA2.more hN2 (fun j hj k hk hf => by have := ((HA.out.each j hj).2.1 k hk).2; have := (HN1.out.2.1 k hf).1; omega)
        have hown' : w2.ownsRow w0.heap.size 24 1 v2 (bs ++ [b]).length (encs encP (bs ++ [b])) := by rw [List.length_append]; exact hown
        have hD3 : ∀ k, v2.ownBlock = some k → ∀ j, j < i + 1 → ¬ (fun j => if j < i then Fs j else F) j k := fun k hk j hj hf => by
          have hf' : (if j < i then Fs j else F) k := hf
          rcases hat2 with e | ⟨b', e, hle⟩
          · rw [e] at hk
            split at hf'
            · rename_i e2; exact HD.out k hk j e2 hf'
            · have := hub k hk; have := (HN1.out.2.1 k hf').1; omega
          · rw [e] at hk
            injection hk with hk
            split at hf'
            · rename_i e2; have := ((HA.out.each j e2).2.1 k hf').2; have := HW1.out.size; omega
            · have := (HN1.out.2.1 k hf').2; omega
        have L1 := Lib.hid hown'
        have L2 := Lib.hid hA3
        have L3 := Lib.hid hD3
        have L4 := Lib.hid hB2
        clear hown hB2 hg2 hat2 hk2 hub hN2 hA2 hA3 hown' hD3
        go_wp2_with fail
        exact ⟨⟨i + 1, bs ++ [b], _, by omega, by simp, L1, L2, L3, L4⟩, by simp [intOf]; omega⟩
    · obtain rfl : i = n := by omega
      clear hlt
      obtain ⟨Ap, cp, rfl, hrow⟩ := own_reads_of (d := (0 : Nat)) HU.out
      have hlenb := HA.out.len
      rw [hlenb] at hrow ⊢
      have HM := Lib.hid (show Mid w0 wr i 0 Ap bs 0 from ⟨⟨Fs, st0, HA.out, (fun j hj y hy => by cases hy), ⟨(fun j hj b v e => by cases e), (fun a ha j hj b v v' e => by cases e), (fun j hj b v e => by cases e), .inl rfl⟩, ⟨hrow, fun hp a ha => ⟨own_base HU.out a.block (by rw [ha]; rfl), fun j hj => HD.out a.block (by rw [ha]; rfl) j hj⟩⟩⟩, HBW.out⟩)
      have HLB := Lib.hid hlenb
      clear hrow hlenb HU HA HD HBW
      go_wp2_with fail
      go_loopw [11, 12] (fun c kv wr => ∃ (k : Nat) (ch : Int), k ≤ 25 ∧ kv = .int .i64 (k : Int) ∧ c = .int .i64 ch ∧ 0 ≤ ch ∧ RowKit.Hid (Mid w0 wr i k Ap bs ch)) (fun _ kv _ => 25 - (intOf kv).toNat)
      case atStart => exact ⟨0, 0, by omega, rfl, rfl, by omega, HM⟩
      case round =>
        obtain ⟨k, ch, hk, rfl, rfl, hch, HMk⟩ := hrel
        obtain ⟨wq, rfl⟩ : ∃ z, z = wr := ⟨_, rfl⟩
        have HBk := Lib.hid (HB0.out.trans (HMk.out.below.mono HB0.out.size))
        have hexit : ∀ (b : Bool), True := fun _ => trivial
        by_cases hk1 : (k : Int) < (lb.length : Int)
        · by_cases hk2 : (k : Int) < (lw.length : Int)
          · by_cases hk3 : (k : Int) < (lh.length : Int)
            · by_cases hk4 : (k : Int) < 25
              · have hk0 : (0 : Int) ≤ (k : Int) := by omega
                obtain ⟨a1, rfl, q1⟩ := H1.out.at_ k (by omega) (by omega)
                obtain ⟨a2, rfl, q2⟩ := H2.out.at_ k (by omega) (by omega)
                obtain ⟨a3, rfl, q3⟩ := H3.out.at_ k (by omega) (by omega)
                rw [Int.toNat_natCast] at q1 q2 q3
                have HQ1 := Lib.hid q1
                have HQ2 := Lib.hid q2
                have HQ3 := Lib.hid q3
                have p1 := pw_cell_below HBk.out q1
                obtain ⟨xb, hxb⟩ : ∃ xb, xb = rd lb k := ⟨_, rfl⟩
                rw [← hxb] at p1 HQ1
                clear q1 q2 q3 hxb
                go_wp2_with (go_at_call 16; refine (within_any xb 60 wq (by decide) (by decide)).mono ?_; rintro r wr' ⟨rfl, rfl⟩
                             obtain ⟨B0, hB0⟩ : ∃ B0 : Int, B0 = xb % 60 := ⟨_, rfl⟩
                             have hB1 : 0 ≤ B0 := by omega
                             have hB2 : B0 < 60 := by omega
                             rw [← hB0]
                             clear hB0)
                obtain ⟨b, hb⟩ : ∃ b, b = 26 * (1 + B0) + (k : Int) := ⟨_, rfl⟩
                rw [← hb]
                have hb1 : 26 ≤ b := by omega
                have hb2 : b ≤ 1600 := by omega
                have HBM := Lib.hid (show b % 26 = (k : Int) from by omega)
                clear hb hB1 hB2 p1
                obtain ⟨⟨Fs, st, hA, hP, hI, hR⟩, _⟩ := HMk.out
                have HP := Lib.hid hP
                have HI := Lib.hid hI
                have HA := Lib.hid hA
                have HR := Lib.hid hR
                clear hA hP hI hR
                go_wp2_with fail
                go_loopw [14, 15, 16, 17, 18] (fun u y iv _ _ wx => ∃ (j : Nat) (R : Nat → Bool) (Fs' : Nat → Nat → Prop) (hv : List Vh), j ≤ i ∧ iv = .int .i64 (j : Int) ∧ y = .int .i64 (Cho.cnt R j : Int) ∧ RowKit.Hid ((∀ m, j ≤ m → R m = false) ∧ ∀ m, m < j → R m = true → (st m).p ≤ b) ∧ RowKit.Hid (vhK.R 41 wx w0.heap.size (okF i Ap Fs') u hv) ∧ RowKit.Hid (hv.map Vh.vo = vup R st j) ∧ RowKit.Hid (Accs wx w0.heap.size i bs Fs' (prS b R st j)) ∧ RowKit.Hid (Ptrs wx w0.heap.size i Ap bs Fs') ∧ RowKit.Hid (Below w0.heap.size w0 wx)) (fun _ _ iv _ _ _ => i - (intOf iv).toNat)
                case atStart => exact ⟨0, fun _ => false, Fs, [], by omega, rfl, rfl, Lib.hid ⟨fun _ _ => rfl, fun m hm => absurd hm (by omega)⟩, Lib.hid (Kd.R_nil _ _ _ _ _), Lib.hid rfl, Lib.hid (by rw [prS_zero]; exact HA.out), HR, Lib.hid HMk.out.below⟩
                case round =>
                  obtain ⟨j, R, Fs', hv, hj, rfl, rfl, HRR, HU, HVU, HAj, HRj, HBj⟩ := hrel
                  by_cases hjl : j < i
                  · have hjl2 : (j : Int) < (i : Int) := by omega
                    have hj0 : (0 : Int) ≤ (j : Int) := by omega
                    have p2 := pw_cell_below (HB0.out.trans (HBj.out.mono HB0.out.size)) HQ2.out
                    obtain ⟨adp, rfl, q4⟩ := HRj.out.at_ hjl
                    have hbj : R j = false := HRR.out.1 j (Nat.le_refl _)
                    have hcj : Cho.cnt R j ≤ 5 := by have := Cho.cnt_le R j; omega
                    obtain ⟨yes, hyes⟩ : ∃ y, y = Cho.cnt R j := ⟨_, rfl⟩
                    rw [← hyes] at hcj ⊢
                    have HYES := Lib.hid hyes
                    have HBIT := Lib.hid hbj
                    have hAcc := HAj.out.each j hjl
                    rw [prS_at] at hAcc
                    obtain ⟨bj, hbje⟩ : ∃ bj, bj = bs.getD j 0 := ⟨_, rfl⟩
                    rw [← hbje] at hAcc q4
                    have HBJ := Lib.hid hbje
                    have HACC := Lib.hid hAcc
                    have HSZ := Lib.hid HBj.out.size
                    have hvl : hv.length ≤ 5 := by have h1 := congrArg List.length HVU.out; rw [List.length_map] at h1; have := vup_len R st j; omega
                    obtain ⟨Au, cu, rfl⟩ := Kd.R_slice HU.out
                    generalize rd lw k = xw at *
                    clear hyes hbj hAcc hbje
                    by_cases hpb : (st j).p ≤ b
                    · have HPB := Lib.hid hpb
                      go_wp2_with (first
                        | (at_builtin; refine Kd.R_append_rows vhK (Rr := fun (x : Vh) cs => cs = x.cells) (w0 := w0) (W := w1) w0.heap.size rfl _ _ 35 41 _ 88 rfl Tryd.underlying35 infoVT rfl (by decide) (by decide) (.slice Au hv.length cu) hv hn A9 (votesL (st j).o).length c9 (okF i (some adp) Fs2) (fun _ => False) rfl rfl HU1.out HN1.out (fun x cs h => h) (fun _ h => h.elim) (fun q hq => ⟨fun m hm hf => by have := ((HA9.out.each m hm).2.1 q hf).2; omega, fun a ha e => by have := ptrs_lt HP9.out.row (by omega) a ha; omega⟩) HB1.out HB1.out.size (by have := HNL.out; omega) ?a1)
                        | (go_at_call 13; refine (prepare_at (n := b) (fr := 1) HACC.out HSZ.out (by omega) hpb (fun y hy => by rw [(HP.out j hjl y hy).1]; decide)).mono ?_
                           rintro r w1 ⟨v9, rfl, hR9, hT9⟩
                           obtain ⟨A9, c9, rfl⟩ := Kd.R_slice hR9
                           obtain ⟨hn, hn1, hn2, hn3⟩ := vh_of2 (Kd.R_reads' hR9).2.2
                           obtain ⟨Fs2, hA9, hF9, hK9⟩ := HAj.out.turn hjl (by rw [HBJ.out] at hT9; exact hT9)
                           have HN1 := Lib.hid (show ReadsRow (fun (x : Vh) cs => cs = x.cells) vhK.sz w1 A9 (votesL (st j).o).length hn from hn1)
                           have HN3 := Lib.hid hn3
                           have HNL := Lib.hid (show (votesL (st j).o).length ≤ 1 from by cases (st j).o <;> simp [votesL])
                           have HA9 := Lib.hid hA9
                           have HP9 := Lib.hid (ptrs_keep HRj.out hK9 (fun hp a ha => (HRj.out.off hp a ha).2 j hjl) hF9)
                           have HU1 := Lib.hid (vrow_turn HU.out hK9 hjl hF9)
                           have HF9 := Lib.hid hF9
                           have HB1 := Lib.hid (show Below w0.heap.size w0 w1 from HBj.out.trans (hK9.to_below HBj.out.size (fun q hq => (HACC.out.2.1 q hq).1)))
                           clear hR9 hT9 hn1 hn2 hn3 hA9 hF9 hK9))
                      case a1 =>
                        intro v2 w2 hR2 hB2 hg2 hat2
                        obtain ⟨A2', c2', rfl⟩ := Kd.R_slice hR2
                        have hk2 : Keep (fun q => (Value.slice Au hv.length cu).ownBlock = some q) w1 w2 := Keep.of_grown hg2 (fun q hq => hq)
                        have hoff : ∀ m, m < i → ∀ q, Fs2 m q → ¬ (Value.slice Au hv.length cu).ownBlock = some q := fun m hm q hf hq => (HU1.out.1 q hq).1 m hm hf
                        have L1 := Lib.hid hR2
                        have L2 := Lib.hid (HA9.out.keep hk2 hoff)
                        have L3 := Lib.hid (ptrs_keep HP9.out hk2 (fun hp a ha hq => (HU1.out.1 a.block hq).2 a ha rfl) (fun m hm q hf => .inl hf))
                        have L4 := Lib.hid hB2
                        clear hR2 hB2 hg2 hat2 hk2 hoff
                        go_wp2_with fail
                        exact ⟨⟨j + 1, plus R j, Fs2, hv ++ hn, by omega, by simp, by rw [cnt_plus, ← HYES.out]; push_cast; rfl, Lib.hid ⟨fun m hm => by unfold plus; rw [HRR.out.1 m (by omega), show (m == j) = false from beq_eq_false_iff_ne.mpr (by omega)]; rfl, fun m hm hr => by
                          rcases Nat.lt_or_ge m j with h | h
                          · rw [plus_lt h] at hr; exact HRR.out.2 m h hr
                          · obtain rfl : m = j := by omega
                            exact HPB.out⟩, L1, Lib.hid (by rw [List.map_append, HVU.out, HN3.out, vup_plus]), Lib.hid (by rw [prS_plus, prS_at]; exact L2.out), L3, L4⟩, by simp [intOf]; omega⟩
                      exact ⟨⟨j + 1, R, Fs', hv, by omega, by simp, by rw [cnt_no HBIT.out, ← HYES.out], Lib.hid ⟨fun m hm => HRR.out.1 m (by omega), fun m hm hr => HRR.out.2 m (by
                        rcases Nat.lt_or_ge m j with h1 | h1
                        · exact h1
                        · rw [HRR.out.1 m h1] at hr; cases hr) hr⟩, HU, Lib.hid (by rw [vup_no HBIT.out]; exact HVU.out), Lib.hid (by rw [prS_no HBIT.out]; exact HAj.out), HRj, HBj⟩, by simp [intOf]; omega⟩
                    · have HPB := Lib.hid (show b < (st j).p from by omega)
                      go_wp2_with (go_at_call 13; refine (prepare_stale (n := b) (fr := 1) HACC.out (by omega) HPB.out).mono ?_
                                   rintro r w1 ⟨rfl, hB9⟩
                                   have HB9 := Lib.hid hB9
                                   clear hB9)
                      · exact ⟨⟨j + 1, R, Fs', hv, by omega, by simp, by rw [cnt_no HBIT.out, ← HYES.out], Lib.hid ⟨fun m hm => HRR.out.1 m (by omega), fun m hm hr => HRR.out.2 m (by
                          rcases Nat.lt_or_ge m j with h1 | h1
                          · exact h1
                          · rw [HRR.out.1 m h1] at hr; cases hr) hr⟩, Lib.hid (Kd.R_below HU.out HB9.out), Lib.hid (by rw [vup_no HBIT.out]; exact HVU.out), Lib.hid (by rw [prS_no HBIT.out]; exact HAj.out.below HB9.out), Lib.hid (ptrs_keep HRj.out (Keep.of_below HB9.out (fun _ => False)) (fun _ _ _ h => h) (fun _ _ _ h => .inl h)), Lib.hid (HBj.out.trans (HB9.out.mono HBj.out.size))⟩, by simp [intOf]; omega⟩
                      · exact ⟨⟨j + 1, R, Fs', hv, by omega, by simp, by rw [cnt_no HBIT.out, ← HYES.out], Lib.hid ⟨fun m hm => HRR.out.1 m (by omega), fun m hm hr => HRR.out.2 m (by
                          rcases Nat.lt_or_ge m j with h1 | h1
                          · exact h1
                          · rw [HRR.out.1 m h1] at hr; cases hr) hr⟩, HU, Lib.hid (by rw [vup_no HBIT.out]; exact HVU.out), Lib.hid (by rw [prS_no HBIT.out]; exact HAj.out), HRj, HBj⟩, by simp [intOf]; omega⟩
                  · obtain rfl : j = i := by omega
                    obtain ⟨wp, rfl⟩ : ∃ z, z = wr := ⟨_, rfl⟩
                    obtain ⟨yes, hyes⟩ : ∃ y, y = Cho.cnt R j := ⟨_, rfl⟩
                    rw [← hyes]
                    have hcj : yes ≤ 5 := by have := Cho.cnt_le R j; omega
                    have hvl : hv.length ≤ 5 := by have h1 := congrArg List.length HVU.out; rw [List.length_map] at h1; have := vup_len R st j; omega
                    obtain ⟨s1, hs1⟩ : ∃ s1, s1 = prS b R st j := ⟨_, rfl⟩
                    rw [← hs1] at HAj
                    have HS1 := Lib.hid (show ab s1 = Cho.prep b R (ab st) j from by rw [hs1]; exact ab_prS HRR.out.2)
                    have HP1 := Lib.hid (show Plainly j s1 from fun m hm y hy => HP.out m hm y (by rw [hs1, prS_o] at hy; exact hy))
                    have HM1 := Lib.hid (show Mid w0 wp j (k + 1) Ap bs ch from ⟨⟨Fs', s1, HAj.out, HP1.out, by rw [HS1.out]; exact HI.out.prep b R, HRj.out⟩, HBj.out⟩)
                    have HYES := Lib.hid hyes
                    clear hyes hs1
                    by_cases hmaj : 2 * yes ≤ j
                    · have hmaj2 : 2 * (yes : Int) ≤ (j : Int) := by omega
                      go_wp2_with fail
                      exact ⟨⟨k + 1, ch, by omega, by simp, rfl, hch, HM1⟩, by simp [intOf]; omega⟩
                    · have hmaj2 : ¬ 2 * (yes : Int) ≤ (j : Int) := by omega
                      have HMAJ := Lib.hid (show j < 2 * Cho.cnt R j from by rw [← HYES.out]; omega)
                      obtain ⟨Au, cu, rfl⟩ := Kd.R_slice HU.out
                      have hmem : ∀ x ∈ hv, x.mem = [] := fun x hx => (vup_mem HP.out HVU.out x hx).2
                      have HPK := Lib.hid (pick_any Au cu hv 1 wp (show VRow wp Au hv.length hv from (Kd.R_reads' HU.out).2.2) (fun x hx => by rw [hmem x hx]; exact ⟨rfl, by decide, fun hp => absurd hp (by decide)⟩) (fun x hx => by rw [hmem x hx]; decide))
                      have hlaw := pick_law (b := b) HP.out HVU.out
                      clear hmem
                      rcases hlaw with ⟨hpn, hnone⟩ | ⟨y, hym, hby, hps, hsome⟩
                      · rw [hpn] at HPK
                        have HV2 := Lib.hid (Or.inr ⟨hnone, rfl⟩ : (∃ g, g < j ∧ Cho.rdy b R (ab st) g = true ∧ ∃ bb, (ab st g).o = some (bb, (k : Int) + 1) ∧ ∀ i, i < j → Cho.rdy b R (ab st) i = true → ∀ b' v', (ab st i).o = some (b', v') → b' ≤ bb) ∨ ((∀ i, i < j → Cho.rdy b R (ab st) i = true → (ab st i).o = none) ∧ (k : Int) + 1 = (k : Int) + 1))
                        clear hpn hnone
                        have HPK2 := Lib.hid (show Calls Tryd.prog 20 #[.slice Au hv.length cu, .int .i64 1] wp fun r w' => ∃ A1 c1, r = .returned (.tuple #[.agg #[.int .i64 0, .int .i64 0, .int .i64 0, .string ByteArray.empty, .slice A1 0 c1, .int .i64 0], .bool false]) ∧ Below wp.heap.size wp w' from HPK.out.mono (fun r w' ⟨A1, c1, h1, h2, h3⟩ => ⟨A1, c1, h1, h3⟩))
                        clear HPK
                        have HEND := Lib.hid (fun R2 st2 (h : Half j j b ((k : Int) + 1) R2 s1 st2) => round_end HI.out (by omega) HBM.out HRR.out.2 HS1.out HMAJ.out HV2.out h)
                        have HROUND := HI.out.round b ((k : Int) + 1) R R (by omega) HBM.out (by rw [rdy_cnt HRR.out.2]; exact HMAJ.out) HV2.out
                        have hv1 : 1 ≤ ((k : Int) + 1) := HROUND.2.1
                        have hcc : 0 = ch ∨ ((k : Int) + 1) = ch := by
                          by_cases hc : 0 < ch
                          · exact .inr (HROUND.1 hc)
                          · exact .inl (by omega)
                        clear HROUND
                        rcases hcc with rfl | rfl
                        · go_wp2_with (go_at_call 20; refine HPK2.out.mono ?_; rintro r w1 ⟨Aq, cq, rfl, hB1⟩
                                       have HB1 := Lib.hid hB1
                                       clear hB1)
                          generalize hW : w1.alloc _ = W
                          have hBW : Below w1.heap.size w1 W := by rw [← hW]; exact (Below.refl _ w1).alloc (Nat.le_refl _) _
                          have hbX : W.heap[w1.heap.size]? = some (.cells #[.int .i64 1, .int .i64 1, .int .i64 ((k : Int) + 1), .string ByteArray.empty, .slice none 0 0, .int .i64 0] 29 (0, 0)) := by rw [← hW]; exact heap_alloc_new w1 _
                          clear hW
                          have HBW := Lib.hid (show Below wp.heap.size wp W from HB1.out.trans (hBW.mono HB1.out.size))
                          obtain ⟨X, hX⟩ : ∃ X, X = w1.heap.size := ⟨_, rfl⟩
                          rw [← hX] at hbX ⊢
                          have hXs : wp.heap.size ≤ X := by rw [hX]; exact HB1.out.size
                          have HX0 := Lib.hid (show W.heap[X]? = some (.cells #[.int .i64 1, .int .i64 1, .int .i64 ((k : Int) + 1), .string ByteArray.empty, .slice none 0 0, .int .i64 0] 29 (0, 0)) ∧ ∀ m, m < j → ¬ Fs' m X from ⟨hbX, fun m hm hf => by have := ((HAj.out.each m hm).2.1 X hf).2; omega⟩)
                          clear hbX hBW hX
                          go_loopw [15, 21] (fun yv iv wx => ∃ (g : Nat) (R2 : Nat → Bool) (Fs2 : Nat → Nat → Prop) (st2 : Nat → AcS), g ≤ j ∧ iv = .int .i64 (g : Int) ∧ yv = .int .i64 (Cho.cnt R2 g : Int) ∧ RowKit.Hid (Half j g b ((k : Int) + 1) R2 s1 st2) ∧ RowKit.Hid (Accs wx w0.heap.size j bs Fs2 st2) ∧ RowKit.Hid (Ptrs wx w0.heap.size j Ap bs Fs2) ∧ RowKit.Hid (wx.heap[X]? = some (.cells #[.int .i64 1, .int .i64 1, .int .i64 ((k : Int) + 1), .string ByteArray.empty, .slice none 0 0, .int .i64 0] 29 (0, 0)) ∧ ∀ m, m < j → ¬ Fs2 m X) ∧ RowKit.Hid (Below w0.heap.size w0 wx)) (fun _ iv _ => j - (intOf iv).toNat)
                          case atStart => exact ⟨0, fun _ => false, Fs', s1, by omega, rfl, rfl, Lib.hid (Half.start HP1.out), Lib.hid (HAj.out.below HBW.out), Lib.hid (ptrs_keep HRj.out (Keep.of_below HBW.out (fun _ => False)) (fun _ _ _ h => h) (fun _ _ _ h => .inl h)), HX0, Lib.hid (HBj.out.trans (HBW.out.mono HBj.out.size))⟩
                          case round =>
                            obtain ⟨g, R2, Fs2, st2, hg, rfl, rfl, HH2, HA2, HP2, HX2, HB2⟩ := hrel
                            by_cases hgl : g < j
                            · have hgl2 : (g : Int) < (j : Int) := by omega
                              have hg0 : (0 : Int) ≤ (g : Int) := by omega
                              have p3 := pw_cell_below (HB0.out.trans (HB2.out.mono HB0.out.size)) HQ3.out
                              obtain ⟨adp, rfl, q4⟩ := HP2.out.at_ hgl
                              have hbg : R2 g = false := HH2.out.off g (Nat.le_refl _)
                              have hcg : Cho.cnt R2 g ≤ 5 := by have := Cho.cnt_le R2 g; omega
                              obtain ⟨y2, hy2⟩ : ∃ y, y = Cho.cnt R2 g := ⟨_, rfl⟩
                              rw [← hy2] at hcg ⊢
                              have HY2 := Lib.hid hy2
                              have HBIT := Lib.hid hbg
                              have hAcc := HA2.out.each g hgl
                              rw [HH2.out.same g (Nat.le_refl _)] at hAcc
                              obtain ⟨bj, hbje⟩ : ∃ bj, bj = bs.getD g 0 := ⟨_, rfl⟩
                              rw [← hbje] at hAcc q4
                              have HBJ := Lib.hid hbje
                              have HACC := Lib.hid hAcc
                              have x0 := blk_cell HX2.out.1 0
                              have x1 := blk_cell HX2.out.1 1
                              have x2 := blk_cell HX2.out.1 2
                              have x3 := blk_cell HX2.out.1 3
                              have x4 := blk_cell HX2.out.1 4
                              have x5 := blk_cell HX2.out.1 5
                              simp only [List.getElem?_toArray, List.getElem?_cons_zero, List.getElem?_cons_succ] at x0 x1 x2 x3 x4 x5
                              generalize rd lh k = xh at *
                              clear hy2 hbg hAcc hbje
                              by_cases hbit : (bits BinOp.and IntKind.i64 (xh / 2 ^ g) 1 == 1) = true
                              · by_cases hpb : (s1 g).p ≤ b
                                · go_wp2_with fail
                                  refine wp_region_noPanic ?_
                                  refine wp_region_held_drew (S := (fun w' => w'.cell? (a3.add k) = some (.int .i64 xh) ∧ w'.cell? (adp.add g) = some (.pointer (some ⟨bj, 0, none⟩)) ∧ w'.cell? ⟨X, 0, none⟩ = some (.int .i64 1) ∧ w'.cell? ⟨X, 1, none⟩ = some (.int .i64 1) ∧ w'.cell? ⟨X, 2, none⟩ = some (.int .i64 ((k : Int) + 1)) ∧ w'.cell? ⟨X, 3, none⟩ = some (.string ByteArray.empty) ∧ w'.cell? ⟨X, 4, none⟩ = some (.slice none 0 0) ∧ w'.cell? ⟨X, 5, none⟩ = some (.int .i64 0))) (by kernel_rfl) ?zbs0 (fun hHeld0 => ?zbr0)
                                  case zbs0 => (try dsimp only) <;> exact ⟨p3, q4, x0, x1, x2, x3, x4, x5⟩
                                  refine wpAnyH_take (i := 0) (v := ?vzb1) (by simp only [List.getElem?_toArray, List.getElem?_cons_zero, List.getElem?_cons_succ]; rfl) (by kernel_rfl) (by kernel_rfl) (by kernel_rfl) (fun _ _ _ h => h) (Or.inl ⟨by rfl, ?hzb1⟩) hHeld0 ?qzb1
                                  case hzb1 => (intro w hSw; (try dsimp only at hSw); go_simp <;> with_reducible rfl)
                                  try simp only [Act.put, List.setIfInBounds_toArray, List.set_cons_zero, List.set_cons_succ]
                                  refine wpAnyH_take (i := 1) (v := ?vzb2) (by simp only [List.getElem?_toArray, List.getElem?_cons_zero, List.getElem?_cons_succ]; rfl) (by kernel_rfl) (by kernel_rfl) (by kernel_rfl) (fun _ _ _ h => h) (Or.inl ⟨by rfl, ?hzb2⟩) hHeld0 ?qzb2
                                  case hzb2 => (intro w hSw; (try dsimp only at hSw); go_simp <;> with_reducible rfl)
                                  try simp only [Act.put, List.setIfInBounds_toArray, List.set_cons_zero, List.set_cons_succ]
                                  refine wpAnyH_take (i := 2) (v := ?vzb3) (by simp only [List.getElem?_toArray, List.getElem?_cons_zero, List.getElem?_cons_succ]; rfl) (by kernel_rfl) (by kernel_rfl) (by kernel_rfl) (fun _ _ _ h => h) (Or.inl ⟨by rfl, ?hzb3⟩) hHeld0 ?qzb3
                                  case hzb3 => (intro w hSw; (try dsimp only at hSw); go_simp <;> with_reducible rfl)
                                  try simp only [Act.put, List.setIfInBounds_toArray, List.set_cons_zero, List.set_cons_succ]
                                  refine wpAnyH_take (i := 3) (v := ?vzb4) (by simp only [List.getElem?_toArray, List.getElem?_cons_zero, List.getElem?_cons_succ]; rfl) (by kernel_rfl) (by kernel_rfl) (by kernel_rfl) (fun _ _ _ h => h) (Or.inl ⟨by rfl, ?hzb4⟩) hHeld0 ?qzb4
                                  case hzb4 => (intro w hSw; (try dsimp only at hSw); go_simp <;> with_reducible rfl)
                                  try simp only [Act.put, List.setIfInBounds_toArray, List.set_cons_zero, List.set_cons_succ]
                                  refine wpAnyH_take (i := 4) (v := ?vzb5) (by simp only [List.getElem?_toArray, List.getElem?_cons_zero, List.getElem?_cons_succ]; rfl) (by kernel_rfl) (by kernel_rfl) (by kernel_rfl) (fun _ _ _ h => h) (Or.inl ⟨by rfl, ?hzb5⟩) hHeld0 ?qzb5
                                  case hzb5 => (intro w hSw; (try dsimp only at hSw); go_simp <;> with_reducible rfl)
                                  try simp only [Act.put, List.setIfInBounds_toArray, List.set_cons_zero, List.set_cons_succ]
                                  refine wpAnyH_take (i := 5) (v := ?vzb6) (by simp only [List.getElem?_toArray, List.getElem?_cons_zero, List.getElem?_cons_succ]; rfl) (by kernel_rfl) (by kernel_rfl) (by kernel_rfl) (fun _ _ _ h => h) (Or.inl ⟨by rfl, ?hzb6⟩) hHeld0 ?qzb6
                                  case hzb6 => (intro w hSw; (try dsimp only at hSw); go_simp <;> with_reducible rfl)
                                  try simp only [Act.put, List.setIfInBounds_toArray, List.set_cons_zero, List.set_cons_succ]
                                  refine wpAnyH_take (i := 6) (v := ?vzb7) (by simp only [List.getElem?_toArray, List.getElem?_cons_zero, List.getElem?_cons_succ]; rfl) (by kernel_rfl) (by kernel_rfl) (by kernel_rfl) (fun _ _ _ h => h) (Or.inl ⟨by rfl, ?hzb7⟩) hHeld0 ?qzb7
                                  case hzb7 => (intro w hSw; (try dsimp only at hSw); go_simp <;> with_reducible rfl)
                                  try simp only [Act.put, List.setIfInBounds_toArray, List.set_cons_zero, List.set_cons_succ]
                                  refine wpAnyH_take (i := 7) (v := ?vzb8) (by simp only [List.getElem?_toArray, List.getElem?_cons_zero, List.getElem?_cons_succ]; rfl) (by kernel_rfl) (by kernel_rfl) (by kernel_rfl) (fun _ _ _ h => h) (Or.inl ⟨by rfl, ?hzb8⟩) hHeld0 ?qzb8
                                  case hzb8 => (intro w hSw; (try dsimp only at hSw); go_simp <;> with_reducible rfl)
                                  try simp only [Act.put, List.setIfInBounds_toArray, List.set_cons_zero, List.set_cons_succ]
                                  refine wpAnyH_take (i := 8) (v := ?vzb9) (by simp only [List.getElem?_toArray, List.getElem?_cons_zero, List.getElem?_cons_succ]; rfl) (by kernel_rfl) (by kernel_rfl) (by kernel_rfl) (fun _ _ _ h => h) (Or.inl ⟨by rfl, ?hzb9⟩) hHeld0 ?qzb9
                                  case hzb9 => (intro w hSw; (try dsimp only at hSw); go_simp <;> with_reducible rfl)
                                  try simp only [Act.put, List.setIfInBounds_toArray, List.set_cons_zero, List.set_cons_succ]
                                  try rw [hbit]
                                  try simp only [hbit]
                                  refine wpAnyH_take (i := 9) (v := ?vzb10) (by simp only [List.getElem?_toArray, List.getElem?_cons_zero, List.getElem?_cons_succ]; rfl) (by kernel_rfl) (by kernel_rfl) (by kernel_rfl) (fun _ _ _ h => h) (Or.inl ⟨by rfl, ?hzb10⟩) hHeld0 ?qzb10
                                  case hzb10 => (intro w hSw; (try dsimp only at hSw); go_simp <;> with_reducible rfl)
                                  try simp only [Act.put, List.setIfInBounds_toArray, List.set_cons_zero, List.set_cons_succ]
                                  refine wpAnyH_take (i := 10) (v := ?vzb11) (by simp only [List.getElem?_toArray, List.getElem?_cons_zero, List.getElem?_cons_succ]; rfl) (by kernel_rfl) (by kernel_rfl) (by kernel_rfl) (fun _ _ _ h => h) (Or.inl ⟨by rfl, ?hzb11⟩) hHeld0 ?qzb11
                                  case hzb11 => (intro w hSw; (try dsimp only at hSw); go_simp <;> with_reducible rfl)
                                  try simp only [Act.put, List.setIfInBounds_toArray, List.set_cons_zero, List.set_cons_succ]
                                  refine wpAnyH_take (i := 11) (v := ?vzb12) (by simp only [List.getElem?_toArray, List.getElem?_cons_zero, List.getElem?_cons_succ]; rfl) (by kernel_rfl) (by kernel_rfl) (by kernel_rfl) (fun _ _ _ h => h) (Or.inl ⟨by rfl, ?hzb12⟩) hHeld0 ?qzb12
                                  case hzb12 => (intro w hSw; (try dsimp only at hSw); go_simp <;> with_reducible rfl)
                                  try simp only [Act.put, List.setIfInBounds_toArray, List.set_cons_zero, List.set_cons_succ]
                                  refine wpAnyH_take (i := 12) (v := ?vzb13) (by simp only [List.getElem?_toArray, List.getElem?_cons_zero, List.getElem?_cons_succ]; rfl) (by kernel_rfl) (by kernel_rfl) (by kernel_rfl) (fun _ _ _ h => h) (Or.inl ⟨by rfl, ?hzb13⟩) hHeld0 ?qzb13
                                  case hzb13 => (intro w hSw; (try dsimp only at hSw); go_simp <;> with_reducible rfl)
                                  try simp only [Act.put, List.setIfInBounds_toArray, List.set_cons_zero, List.set_cons_succ]
                                  refine wpAnyH_take (i := 13) (v := ?vzb14) (by simp only [List.getElem?_toArray, List.getElem?_cons_zero, List.getElem?_cons_succ]; rfl) (by kernel_rfl) (by kernel_rfl) (by kernel_rfl) (fun _ _ _ h => h) (Or.inl ⟨by rfl, ?hzb14⟩) hHeld0 ?qzb14
                                  case hzb14 => (intro w hSw; (try dsimp only at hSw); go_simp <;> with_reducible rfl)
                                  try simp only [Act.put, List.setIfInBounds_toArray, List.set_cons_zero, List.set_cons_succ]
                                  refine wpAnyH_take (i := 14) (v := ?vzb15) (by simp only [List.getElem?_toArray, List.getElem?_cons_zero, List.getElem?_cons_succ]; rfl) (by kernel_rfl) (by kernel_rfl) (by kernel_rfl) (fun _ _ _ h => h) (Or.inl ⟨by rfl, ?hzb15⟩) hHeld0 ?qzb15
                                  case hzb15 => (intro w hSw; (try dsimp only at hSw); go_simp <;> with_reducible rfl)
                                  try simp only [Act.put, List.setIfInBounds_toArray, List.set_cons_zero, List.set_cons_succ]
                                  refine wpAnyH_ready (rs := [15]) (by kernel_rfl) (by simp) ?_
                                  refine AllReadyH.cons (by simp only [List.getElem?_toArray, List.getElem?_cons_zero, List.getElem?_cons_succ]; rfl) (fun K hK => ?_) AllReadyH.nil
                                  go_simp
                                  go_at_call 12
                                  obtain ⟨wd, hwd⟩ : ∃ z, z = wr.drew := ⟨_, rfl⟩
                                  rw [← hwd]
                                  have hBd : Below wr.heap.size wr wd := by rw [hwd]; exact (Below.refl _ wr).drew
                                  clear hwd
                                  refine (accept_ok ⟨1, b, 1, 1, ((k : Int) + 1), ByteArray.empty, none, 0, [], 0⟩ bj (s1 g).p (s1 g).o w0.heap.size (Fs2 g) wd (HACC.out.below hBd) (Nat.le_trans HB2.out.size hBd.size) (show (1 : Int) ≤ 1 by decide) (show (1 : Int) ≤ 64 by decide) (show 1 ≤ b by omega) hpb (fun y hy => (HP1.out g hgl y hy).1) ⟨rfl, (show 0 ≤ 9223372036854775807 by decide), fun hp => absurd hp (show ¬ 0 < 0 by decide)⟩ (show 0 ≤ 1000000 by decide) (fun hp => absurd hp (show ¬ 0 < 0 by decide))).mono ?_
                                  rintro r w2 ⟨rfl, A2, c2', hT⟩
                                  obtain ⟨Fs3, hA3, hF3, hK3⟩ := (HA2.out.below hBd).turn hgl (by rw [← HBJ.out]; exact hT)
                                  have p3 := pw_cell_below hBd p3
                                  have q4 := pw_cell_below hBd q4
                                  have x0 := pw_cell_below hBd x0
                                  have x1 := pw_cell_below hBd x1
                                  have x2 := pw_cell_below hBd x2
                                  have x3 := pw_cell_below hBd x3
                                  have x4 := pw_cell_below hBd x4
                                  have x5 := pw_cell_below hBd x5
                                  have hfx : ∀ q, Fs2 g q → w0.heap.size ≤ q := fun q hq => (HACC.out.2.1 q hq).1
                                  have hlt3 : (a3.add k).block < w0.heap.size := Nat.lt_of_lt_of_le (World.block_lt_of_cell? w _ HQ3.out) HB0.out.size
                                  have hXF : ¬ Fs2 g X := HX2.out.2 g hgl
                                  have p3 := hK3.cell p3 (fun hf => by have := hfx _ hf; omega)
                                  have q4 := hK3.cell q4 (fun hf => (HP2.out.off (by omega) adp rfl).2 g hgl (by rw [vadd_block] at hf; exact hf))
                                  have x0 := hK3.cell x0 hXF
                                  have x1 := hK3.cell x1 hXF
                                  have x2 := hK3.cell x2 hXF
                                  have x3 := hK3.cell x3 hXF
                                  have x4 := hK3.cell x4 hXF
                                  have x5 := hK3.cell x5 hXF
                                  have L1 := Lib.hid (HH2.out.yes hpb (y := ⟨1, b, 1, 1, ((k : Int) + 1), ByteArray.empty, A2, c2', [], 0⟩) ⟨rfl, rfl, rfl, rfl⟩)
                                  have L2 := Lib.hid hA3
                                  have L3 := Lib.hid (ptrs_keep (ptrs_keep HP2.out (Keep.of_below hBd (fun _ => False)) (fun _ _ _ h => h) (fun m hm q hf => .inl hf) : Ptrs wd w0.heap.size j (some adp) bs Fs2) hK3 (fun hp a ha => (HP2.out.off hp a ha).2 g hgl) hF3)
                                  have L4 := Lib.hid (show w2.heap[X]? = some (.cells #[.int .i64 1, .int .i64 1, .int .i64 ((k : Int) + 1), .string ByteArray.empty, .slice none 0 0, .int .i64 0] 29 (0, 0)) ∧ ∀ m, m < j → ¬ Fs3 m X from ⟨hK3.blk' (blk_below HX2.out.1 hBd) hXF, fun m hm hf => by
                                    rcases hF3 m hm X hf with h1 | h1
                                    · exact HX2.out.2 m hm h1
                                    · have := (Array.getElem?_eq_some_iff.1 HX2.out.1).1; have := hBd.size; omega⟩)
                                  have L5 := Lib.hid (show Below w0.heap.size w0 w2 from (HB2.out.trans (hBd.mono HB2.out.size)).trans (hK3.to_below (Nat.le_trans HB2.out.size hBd.size) hfx))
                                  clear hT hA3 hF3 hK3 hfx hlt3 hXF hBd
                                  refine hK.out _ _ ?szb16 (fun hHeld1 => ?qzb16)
                                  case szb16 => (try dsimp only) <;> exact ⟨p3, q4, x0, x1, x2, x3, x4, x5⟩
                                  clear hK K
                                  try simp only [Act.put, List.setIfInBounds_toArray, List.set_cons_zero, List.set_cons_succ]
                                  refine wpAnyH_take (i := 16) (v := ?vzb17) (by simp only [List.getElem?_toArray, List.getElem?_cons_zero, List.getElem?_cons_succ]; rfl) (by kernel_rfl) (by kernel_rfl) (by kernel_rfl) (fun _ _ _ h => h) (Or.inl ⟨by rfl, ?hzb17⟩) hHeld1 ?qzb17
                                  case hzb17 => (intro w hSw; (try dsimp only at hSw); go_simp <;> with_reducible rfl)
                                  try simp only [Act.put, List.setIfInBounds_toArray, List.set_cons_zero, List.set_cons_succ]
                                  refine wpAnyH_take (i := 17) (v := ?vzb18) (by simp only [List.getElem?_toArray, List.getElem?_cons_zero, List.getElem?_cons_succ]; rfl) (by kernel_rfl) (by kernel_rfl) (by kernel_rfl) (fun _ _ _ h => h) (Or.inl ⟨by rfl, ?hzb18⟩) hHeld1 ?qzb18
                                  case hzb18 => (intro w hSw; (try dsimp only at hSw); go_simp <;> with_reducible rfl)
                                  try simp only [Act.put, List.setIfInBounds_toArray, List.set_cons_zero, List.set_cons_succ]
                                  refine wpAnyH_done (by kernel_rfl) ?_ _
                                  refine NoPanic.normal ?_
                                  go_wp2_with fail
                                  exact ⟨⟨g + 1, plus R2 g, Fs3, _, by omega, by simp, by rw [cnt_plus, ← HY2.out]; push_cast; rfl, L1, L2, L3, L4, L5⟩, by simp [intOf]; omega⟩
                                · go_wp2_with fail
                                  refine wp_region_noPanic ?_
                                  refine wp_region_held_drew (S := (fun w' => w'.cell? (a3.add k) = some (.int .i64 xh) ∧ w'.cell? (adp.add g) = some (.pointer (some ⟨bj, 0, none⟩)) ∧ w'.cell? ⟨X, 0, none⟩ = some (.int .i64 1) ∧ w'.cell? ⟨X, 1, none⟩ = some (.int .i64 1) ∧ w'.cell? ⟨X, 2, none⟩ = some (.int .i64 ((k : Int) + 1)) ∧ w'.cell? ⟨X, 3, none⟩ = some (.string ByteArray.empty) ∧ w'.cell? ⟨X, 4, none⟩ = some (.slice none 0 0) ∧ w'.cell? ⟨X, 5, none⟩ = some (.int .i64 0))) (by kernel_rfl) ?zcs0 (fun hHeld0 => ?zcr0)
                                  case zcs0 => (try dsimp only) <;> exact ⟨p3, q4, x0, x1, x2, x3, x4, x5⟩
                                  refine wpAnyH_take (i := 0) (v := ?vzc1) (by simp only [List.getElem?_toArray, List.getElem?_cons_zero, List.getElem?_cons_succ]; rfl) (by kernel_rfl) (by kernel_rfl) (by kernel_rfl) (fun _ _ _ h => h) (Or.inl ⟨by rfl, ?hzc1⟩) hHeld0 ?qzc1
                                  case hzc1 => (intro w hSw; (try dsimp only at hSw); go_simp <;> with_reducible rfl)
                                  try simp only [Act.put, List.setIfInBounds_toArray, List.set_cons_zero, List.set_cons_succ]
                                  refine wpAnyH_take (i := 1) (v := ?vzc2) (by simp only [List.getElem?_toArray, List.getElem?_cons_zero, List.getElem?_cons_succ]; rfl) (by kernel_rfl) (by kernel_rfl) (by kernel_rfl) (fun _ _ _ h => h) (Or.inl ⟨by rfl, ?hzc2⟩) hHeld0 ?qzc2
                                  case hzc2 => (intro w hSw; (try dsimp only at hSw); go_simp <;> with_reducible rfl)
                                  try simp only [Act.put, List.setIfInBounds_toArray, List.set_cons_zero, List.set_cons_succ]
                                  refine wpAnyH_take (i := 2) (v := ?vzc3) (by simp only [List.getElem?_toArray, List.getElem?_cons_zero, List.getElem?_cons_succ]; rfl) (by kernel_rfl) (by kernel_rfl) (by kernel_rfl) (fun _ _ _ h => h) (Or.inl ⟨by rfl, ?hzc3⟩) hHeld0 ?qzc3
                                  case hzc3 => (intro w hSw; (try dsimp only at hSw); go_simp <;> with_reducible rfl)
                                  try simp only [Act.put, List.setIfInBounds_toArray, List.set_cons_zero, List.set_cons_succ]
                                  refine wpAnyH_take (i := 3) (v := ?vzc4) (by simp only [List.getElem?_toArray, List.getElem?_cons_zero, List.getElem?_cons_succ]; rfl) (by kernel_rfl) (by kernel_rfl) (by kernel_rfl) (fun _ _ _ h => h) (Or.inl ⟨by rfl, ?hzc4⟩) hHeld0 ?qzc4
                                  case hzc4 => (intro w hSw; (try dsimp only at hSw); go_simp <;> with_reducible rfl)
                                  try simp only [Act.put, List.setIfInBounds_toArray, List.set_cons_zero, List.set_cons_succ]
                                  refine wpAnyH_take (i := 4) (v := ?vzc5) (by simp only [List.getElem?_toArray, List.getElem?_cons_zero, List.getElem?_cons_succ]; rfl) (by kernel_rfl) (by kernel_rfl) (by kernel_rfl) (fun _ _ _ h => h) (Or.inl ⟨by rfl, ?hzc5⟩) hHeld0 ?qzc5
                                  case hzc5 => (intro w hSw; (try dsimp only at hSw); go_simp <;> with_reducible rfl)
                                  try simp only [Act.put, List.setIfInBounds_toArray, List.set_cons_zero, List.set_cons_succ]
                                  refine wpAnyH_take (i := 5) (v := ?vzc6) (by simp only [List.getElem?_toArray, List.getElem?_cons_zero, List.getElem?_cons_succ]; rfl) (by kernel_rfl) (by kernel_rfl) (by kernel_rfl) (fun _ _ _ h => h) (Or.inl ⟨by rfl, ?hzc6⟩) hHeld0 ?qzc6
                                  case hzc6 => (intro w hSw; (try dsimp only at hSw); go_simp <;> with_reducible rfl)
                                  try simp only [Act.put, List.setIfInBounds_toArray, List.set_cons_zero, List.set_cons_succ]
                                  refine wpAnyH_take (i := 6) (v := ?vzc7) (by simp only [List.getElem?_toArray, List.getElem?_cons_zero, List.getElem?_cons_succ]; rfl) (by kernel_rfl) (by kernel_rfl) (by kernel_rfl) (fun _ _ _ h => h) (Or.inl ⟨by rfl, ?hzc7⟩) hHeld0 ?qzc7
                                  case hzc7 => (intro w hSw; (try dsimp only at hSw); go_simp <;> with_reducible rfl)
                                  try simp only [Act.put, List.setIfInBounds_toArray, List.set_cons_zero, List.set_cons_succ]
                                  refine wpAnyH_take (i := 7) (v := ?vzc8) (by simp only [List.getElem?_toArray, List.getElem?_cons_zero, List.getElem?_cons_succ]; rfl) (by kernel_rfl) (by kernel_rfl) (by kernel_rfl) (fun _ _ _ h => h) (Or.inl ⟨by rfl, ?hzc8⟩) hHeld0 ?qzc8
                                  case hzc8 => (intro w hSw; (try dsimp only at hSw); go_simp <;> with_reducible rfl)
                                  try simp only [Act.put, List.setIfInBounds_toArray, List.set_cons_zero, List.set_cons_succ]
                                  refine wpAnyH_take (i := 8) (v := ?vzc9) (by simp only [List.getElem?_toArray, List.getElem?_cons_zero, List.getElem?_cons_succ]; rfl) (by kernel_rfl) (by kernel_rfl) (by kernel_rfl) (fun _ _ _ h => h) (Or.inl ⟨by rfl, ?hzc9⟩) hHeld0 ?qzc9
                                  case hzc9 => (intro w hSw; (try dsimp only at hSw); go_simp <;> with_reducible rfl)
                                  try simp only [Act.put, List.setIfInBounds_toArray, List.set_cons_zero, List.set_cons_succ]
                                  try rw [hbit]
                                  try simp only [hbit]
                                  refine wpAnyH_take (i := 9) (v := ?vzc10) (by simp only [List.getElem?_toArray, List.getElem?_cons_zero, List.getElem?_cons_succ]; rfl) (by kernel_rfl) (by kernel_rfl) (by kernel_rfl) (fun _ _ _ h => h) (Or.inl ⟨by rfl, ?hzc10⟩) hHeld0 ?qzc10
                                  case hzc10 => (intro w hSw; (try dsimp only at hSw); go_simp <;> with_reducible rfl)
                                  try simp only [Act.put, List.setIfInBounds_toArray, List.set_cons_zero, List.set_cons_succ]
                                  refine wpAnyH_take (i := 10) (v := ?vzc11) (by simp only [List.getElem?_toArray, List.getElem?_cons_zero, List.getElem?_cons_succ]; rfl) (by kernel_rfl) (by kernel_rfl) (by kernel_rfl) (fun _ _ _ h => h) (Or.inl ⟨by rfl, ?hzc11⟩) hHeld0 ?qzc11
                                  case hzc11 => (intro w hSw; (try dsimp only at hSw); go_simp <;> with_reducible rfl)
                                  try simp only [Act.put, List.setIfInBounds_toArray, List.set_cons_zero, List.set_cons_succ]
                                  refine wpAnyH_take (i := 11) (v := ?vzc12) (by simp only [List.getElem?_toArray, List.getElem?_cons_zero, List.getElem?_cons_succ]; rfl) (by kernel_rfl) (by kernel_rfl) (by kernel_rfl) (fun _ _ _ h => h) (Or.inl ⟨by rfl, ?hzc12⟩) hHeld0 ?qzc12
                                  case hzc12 => (intro w hSw; (try dsimp only at hSw); go_simp <;> with_reducible rfl)
                                  try simp only [Act.put, List.setIfInBounds_toArray, List.set_cons_zero, List.set_cons_succ]
                                  refine wpAnyH_take (i := 12) (v := ?vzc13) (by simp only [List.getElem?_toArray, List.getElem?_cons_zero, List.getElem?_cons_succ]; rfl) (by kernel_rfl) (by kernel_rfl) (by kernel_rfl) (fun _ _ _ h => h) (Or.inl ⟨by rfl, ?hzc13⟩) hHeld0 ?qzc13
                                  case hzc13 => (intro w hSw; (try dsimp only at hSw); go_simp <;> with_reducible rfl)
                                  try simp only [Act.put, List.setIfInBounds_toArray, List.set_cons_zero, List.set_cons_succ]
                                  refine wpAnyH_take (i := 13) (v := ?vzc14) (by simp only [List.getElem?_toArray, List.getElem?_cons_zero, List.getElem?_cons_succ]; rfl) (by kernel_rfl) (by kernel_rfl) (by kernel_rfl) (fun _ _ _ h => h) (Or.inl ⟨by rfl, ?hzc14⟩) hHeld0 ?qzc14
                                  case hzc14 => (intro w hSw; (try dsimp only at hSw); go_simp <;> with_reducible rfl)
                                  try simp only [Act.put, List.setIfInBounds_toArray, List.set_cons_zero, List.set_cons_succ]
                                  refine wpAnyH_take (i := 14) (v := ?vzc15) (by simp only [List.getElem?_toArray, List.getElem?_cons_zero, List.getElem?_cons_succ]; rfl) (by kernel_rfl) (by kernel_rfl) (by kernel_rfl) (fun _ _ _ h => h) (Or.inl ⟨by rfl, ?hzc15⟩) hHeld0 ?qzc15
                                  case hzc15 => (intro w hSw; (try dsimp only at hSw); go_simp <;> with_reducible rfl)
                                  try simp only [Act.put, List.setIfInBounds_toArray, List.set_cons_zero, List.set_cons_succ]
                                  refine wpAnyH_ready (rs := [15]) (by kernel_rfl) (by simp) ?_
                                  refine AllReadyH.cons (by simp only [List.getElem?_toArray, List.getElem?_cons_zero, List.getElem?_cons_succ]; rfl) (fun K hK => ?_) AllReadyH.nil
                                  go_simp
                                  go_at_call 12
                                  obtain ⟨wd, hwd⟩ : ∃ z, z = wr.drew := ⟨_, rfl⟩
                                  rw [← hwd]
                                  have hBd : Below wr.heap.size wr wd := by rw [hwd]; exact (Below.refl _ wr).drew
                                  clear hwd
                                  have hcb : wd.cell? ⟨bj, 0, none⟩ = some (.int .i64 (s1 g).p) := by
                                    obtain ⟨_, _, m, h3, _⟩ := HACC.out.below hBd
                                    exact blk_cell h3 0
                                  refine (accept_stale bj b (s1 g).p 1 (.bool true) 1 1 ((k : Int) + 1) 0 ByteArray.empty _ wd hcb (by omega) (by omega) (by decide) (by decide)).mono ?_
                                  rintro r w2 ⟨rfl, hB9⟩
                                  have p3 := pw_cell_below hBd p3
                                  have q4 := pw_cell_below hBd q4
                                  have x0 := pw_cell_below hBd x0
                                  have x1 := pw_cell_below hBd x1
                                  have x2 := pw_cell_below hBd x2
                                  have x3 := pw_cell_below hBd x3
                                  have x4 := pw_cell_below hBd x4
                                  have x5 := pw_cell_below hBd x5
                                  have p3 := pw_cell_below hB9 p3
                                  have q4 := pw_cell_below hB9 q4
                                  have x0 := pw_cell_below hB9 x0
                                  have x1 := pw_cell_below hB9 x1
                                  have x2 := pw_cell_below hB9 x2
                                  have x3 := pw_cell_below hB9 x3
                                  have x4 := pw_cell_below hB9 x4
                                  have x5 := pw_cell_below hB9 x5
                                  have hB10 : Below wr.heap.size wr w2 := hBd.trans (hB9.mono hBd.size)
                                  have L1 := Lib.hid HH2.out.no
                                  have L2 := Lib.hid (HA2.out.below hB10)
                                  have L3 := Lib.hid (ptrs_keep HP2.out (Keep.of_below hB10 (fun _ => False)) (fun _ _ _ h => h) (fun m hm q hf => .inl hf))
                                  have L4 := Lib.hid (show w2.heap[X]? = some (.cells #[.int .i64 1, .int .i64 1, .int .i64 ((k : Int) + 1), .string ByteArray.empty, .slice none 0 0, .int .i64 0] 29 (0, 0)) ∧ ∀ m, m < j → ¬ Fs2 m X from ⟨blk_below HX2.out.1 hB10, HX2.out.2⟩)
                                  have L5 := Lib.hid (HB2.out.trans (hB10.mono HB2.out.size))
                                  clear hB9 hB10 hBd hcb
                                  refine hK.out _ _ ?szc16 (fun hHeld1 => ?qzc16)
                                  case szc16 => (try dsimp only) <;> exact ⟨p3, q4, x0, x1, x2, x3, x4, x5⟩
                                  clear hK K
                                  try simp only [Act.put, List.setIfInBounds_toArray, List.set_cons_zero, List.set_cons_succ]
                                  refine wpAnyH_take (i := 16) (v := ?vzc17) (by simp only [List.getElem?_toArray, List.getElem?_cons_zero, List.getElem?_cons_succ]; rfl) (by kernel_rfl) (by kernel_rfl) (by kernel_rfl) (fun _ _ _ h => h) (Or.inl ⟨by rfl, ?hzc17⟩) hHeld1 ?qzc17
                                  case hzc17 => (intro w hSw; (try dsimp only at hSw); go_simp <;> with_reducible rfl)
                                  try simp only [Act.put, List.setIfInBounds_toArray, List.set_cons_zero, List.set_cons_succ]
                                  refine wpAnyH_take (i := 17) (v := ?vzc18) (by simp only [List.getElem?_toArray, List.getElem?_cons_zero, List.getElem?_cons_succ]; rfl) (by kernel_rfl) (by kernel_rfl) (by kernel_rfl) (fun _ _ _ h => h) (Or.inl ⟨by rfl, ?hzc18⟩) hHeld1 ?qzc18
                                  case hzc18 => (intro w hSw; (try dsimp only at hSw); go_simp <;> with_reducible rfl)
                                  try simp only [Act.put, List.setIfInBounds_toArray, List.set_cons_zero, List.set_cons_succ]
                                  refine wpAnyH_done (by kernel_rfl) ?_ _
                                  refine NoPanic.normal ?_
                                  go_wp2_with fail
                                  exact ⟨⟨g + 1, R2, Fs2, st2, by omega, by simp, by rw [cnt_no HBIT.out, ← HY2.out], L1, L2, L3, L4, L5⟩, by simp [intOf]; omega⟩
                              · have hbit : (bits BinOp.and IntKind.i64 (xh / 2 ^ g) 1 == 1) = false := by simpa using hbit
                                go_wp2_with fail
                                refine wp_region_noPanic ?_
                                refine wp_region_held_drew (S := (fun w' => w'.cell? (a3.add k) = some (.int .i64 xh) ∧ w'.cell? (adp.add g) = some (.pointer (some ⟨bj, 0, none⟩)) ∧ w'.cell? ⟨X, 0, none⟩ = some (.int .i64 1) ∧ w'.cell? ⟨X, 1, none⟩ = some (.int .i64 1) ∧ w'.cell? ⟨X, 2, none⟩ = some (.int .i64 ((k : Int) + 1)) ∧ w'.cell? ⟨X, 3, none⟩ = some (.string ByteArray.empty) ∧ w'.cell? ⟨X, 4, none⟩ = some (.slice none 0 0) ∧ w'.cell? ⟨X, 5, none⟩ = some (.int .i64 0))) (by kernel_rfl) ?zds0 (fun hHeld0 => ?zdr0)
                                case zds0 => (try dsimp only) <;> exact ⟨p3, q4, x0, x1, x2, x3, x4, x5⟩
                                refine wpAnyH_take (i := 0) (v := ?vzd1) (by simp only [List.getElem?_toArray, List.getElem?_cons_zero, List.getElem?_cons_succ]; rfl) (by kernel_rfl) (by kernel_rfl) (by kernel_rfl) (fun _ _ _ h => h) (Or.inl ⟨by rfl, ?hzd1⟩) hHeld0 ?qzd1
                                case hzd1 => (intro w hSw; (try dsimp only at hSw); go_simp <;> with_reducible rfl)
                                try simp only [Act.put, List.setIfInBounds_toArray, List.set_cons_zero, List.set_cons_succ]
                                refine wpAnyH_take (i := 1) (v := ?vzd2) (by simp only [List.getElem?_toArray, List.getElem?_cons_zero, List.getElem?_cons_succ]; rfl) (by kernel_rfl) (by kernel_rfl) (by kernel_rfl) (fun _ _ _ h => h) (Or.inl ⟨by rfl, ?hzd2⟩) hHeld0 ?qzd2
                                case hzd2 => (intro w hSw; (try dsimp only at hSw); go_simp <;> with_reducible rfl)
                                try simp only [Act.put, List.setIfInBounds_toArray, List.set_cons_zero, List.set_cons_succ]
                                refine wpAnyH_take (i := 2) (v := ?vzd3) (by simp only [List.getElem?_toArray, List.getElem?_cons_zero, List.getElem?_cons_succ]; rfl) (by kernel_rfl) (by kernel_rfl) (by kernel_rfl) (fun _ _ _ h => h) (Or.inl ⟨by rfl, ?hzd3⟩) hHeld0 ?qzd3
                                case hzd3 => (intro w hSw; (try dsimp only at hSw); go_simp <;> with_reducible rfl)
                                try simp only [Act.put, List.setIfInBounds_toArray, List.set_cons_zero, List.set_cons_succ]
                                refine wpAnyH_take (i := 3) (v := ?vzd4) (by simp only [List.getElem?_toArray, List.getElem?_cons_zero, List.getElem?_cons_succ]; rfl) (by kernel_rfl) (by kernel_rfl) (by kernel_rfl) (fun _ _ _ h => h) (Or.inl ⟨by rfl, ?hzd4⟩) hHeld0 ?qzd4
                                case hzd4 => (intro w hSw; (try dsimp only at hSw); go_simp <;> with_reducible rfl)
                                try simp only [Act.put, List.setIfInBounds_toArray, List.set_cons_zero, List.set_cons_succ]
                                refine wpAnyH_take (i := 4) (v := ?vzd5) (by simp only [List.getElem?_toArray, List.getElem?_cons_zero, List.getElem?_cons_succ]; rfl) (by kernel_rfl) (by kernel_rfl) (by kernel_rfl) (fun _ _ _ h => h) (Or.inl ⟨by rfl, ?hzd5⟩) hHeld0 ?qzd5
                                case hzd5 => (intro w hSw; (try dsimp only at hSw); go_simp <;> with_reducible rfl)
                                try simp only [Act.put, List.setIfInBounds_toArray, List.set_cons_zero, List.set_cons_succ]
                                refine wpAnyH_take (i := 5) (v := ?vzd6) (by simp only [List.getElem?_toArray, List.getElem?_cons_zero, List.getElem?_cons_succ]; rfl) (by kernel_rfl) (by kernel_rfl) (by kernel_rfl) (fun _ _ _ h => h) (Or.inl ⟨by rfl, ?hzd6⟩) hHeld0 ?qzd6
                                case hzd6 => (intro w hSw; (try dsimp only at hSw); go_simp <;> with_reducible rfl)
                                try simp only [Act.put, List.setIfInBounds_toArray, List.set_cons_zero, List.set_cons_succ]
                                refine wpAnyH_take (i := 6) (v := ?vzd7) (by simp only [List.getElem?_toArray, List.getElem?_cons_zero, List.getElem?_cons_succ]; rfl) (by kernel_rfl) (by kernel_rfl) (by kernel_rfl) (fun _ _ _ h => h) (Or.inl ⟨by rfl, ?hzd7⟩) hHeld0 ?qzd7
                                case hzd7 => (intro w hSw; (try dsimp only at hSw); go_simp <;> with_reducible rfl)
                                try simp only [Act.put, List.setIfInBounds_toArray, List.set_cons_zero, List.set_cons_succ]
                                refine wpAnyH_take (i := 7) (v := ?vzd8) (by simp only [List.getElem?_toArray, List.getElem?_cons_zero, List.getElem?_cons_succ]; rfl) (by kernel_rfl) (by kernel_rfl) (by kernel_rfl) (fun _ _ _ h => h) (Or.inl ⟨by rfl, ?hzd8⟩) hHeld0 ?qzd8
                                case hzd8 => (intro w hSw; (try dsimp only at hSw); go_simp <;> with_reducible rfl)
                                try simp only [Act.put, List.setIfInBounds_toArray, List.set_cons_zero, List.set_cons_succ]
                                refine wpAnyH_take (i := 8) (v := ?vzd9) (by simp only [List.getElem?_toArray, List.getElem?_cons_zero, List.getElem?_cons_succ]; rfl) (by kernel_rfl) (by kernel_rfl) (by kernel_rfl) (fun _ _ _ h => h) (Or.inl ⟨by rfl, ?hzd9⟩) hHeld0 ?qzd9
                                case hzd9 => (intro w hSw; (try dsimp only at hSw); go_simp <;> with_reducible rfl)
                                try simp only [Act.put, List.setIfInBounds_toArray, List.set_cons_zero, List.set_cons_succ]
                                try rw [hbit]
                                try simp only [hbit]
                                refine wpAnyH_take (i := 9) (v := undef) (by simp only [List.getElem?_toArray, List.getElem?_cons_zero, List.getElem?_cons_succ]; rfl) (by kernel_rfl) (by kernel_rfl) (by kernel_rfl) (fun _ _ _ h => h) (Or.inr ⟨by rfl, rfl⟩) hHeld0 ?qzd10
                                try simp only [Act.put, List.setIfInBounds_toArray, List.set_cons_zero, List.set_cons_succ]
                                refine wpAnyH_take (i := 10) (v := undef) (by simp only [List.getElem?_toArray, List.getElem?_cons_zero, List.getElem?_cons_succ]; rfl) (by kernel_rfl) (by kernel_rfl) (by kernel_rfl) (fun _ _ _ h => h) (Or.inr ⟨by rfl, rfl⟩) hHeld0 ?qzd11
                                try simp only [Act.put, List.setIfInBounds_toArray, List.set_cons_zero, List.set_cons_succ]
                                refine wpAnyH_take (i := 11) (v := undef) (by simp only [List.getElem?_toArray, List.getElem?_cons_zero, List.getElem?_cons_succ]; rfl) (by kernel_rfl) (by kernel_rfl) (by kernel_rfl) (fun _ _ _ h => h) (Or.inr ⟨by rfl, rfl⟩) hHeld0 ?qzd12
                                try simp only [Act.put, List.setIfInBounds_toArray, List.set_cons_zero, List.set_cons_succ]
                                refine wpAnyH_take (i := 12) (v := undef) (by simp only [List.getElem?_toArray, List.getElem?_cons_zero, List.getElem?_cons_succ]; rfl) (by kernel_rfl) (by kernel_rfl) (by kernel_rfl) (fun _ _ _ h => h) (Or.inr ⟨by rfl, rfl⟩) hHeld0 ?qzd13
                                try simp only [Act.put, List.setIfInBounds_toArray, List.set_cons_zero, List.set_cons_succ]
                                refine wpAnyH_take (i := 13) (v := undef) (by simp only [List.getElem?_toArray, List.getElem?_cons_zero, List.getElem?_cons_succ]; rfl) (by kernel_rfl) (by kernel_rfl) (by kernel_rfl) (fun _ _ _ h => h) (Or.inr ⟨by rfl, rfl⟩) hHeld0 ?qzd14
                                try simp only [Act.put, List.setIfInBounds_toArray, List.set_cons_zero, List.set_cons_succ]
                                refine wpAnyH_take (i := 14) (v := undef) (by simp only [List.getElem?_toArray, List.getElem?_cons_zero, List.getElem?_cons_succ]; rfl) (by kernel_rfl) (by kernel_rfl) (by kernel_rfl) (fun _ _ _ h => h) (Or.inr ⟨by rfl, rfl⟩) hHeld0 ?qzd15
                                try simp only [Act.put, List.setIfInBounds_toArray, List.set_cons_zero, List.set_cons_succ]
                                refine wpAnyH_take (i := 15) (v := undef) (by simp only [List.getElem?_toArray, List.getElem?_cons_zero, List.getElem?_cons_succ]; rfl) (by kernel_rfl) (by kernel_rfl) (by kernel_rfl) (fun _ _ _ h => h) (Or.inr ⟨by rfl, rfl⟩) hHeld0 ?qzd16
                                try simp only [Act.put, List.setIfInBounds_toArray, List.set_cons_zero, List.set_cons_succ]
                                refine wpAnyH_take (i := 16) (v := undef) (by simp only [List.getElem?_toArray, List.getElem?_cons_zero, List.getElem?_cons_succ]; rfl) (by kernel_rfl) (by kernel_rfl) (by kernel_rfl) (fun _ _ _ h => h) (Or.inr ⟨by rfl, rfl⟩) hHeld0 ?qzd17
                                try simp only [Act.put, List.setIfInBounds_toArray, List.set_cons_zero, List.set_cons_succ]
                                refine wpAnyH_take (i := 17) (v := ?vzd18) (by simp only [List.getElem?_toArray, List.getElem?_cons_zero, List.getElem?_cons_succ]; rfl) (by kernel_rfl) (by kernel_rfl) (by kernel_rfl) (fun _ _ _ h => h) (Or.inl ⟨by rfl, ?hzd18⟩) hHeld0 ?qzd18
                                case hzd18 => (intro w hSw; (try dsimp only at hSw); go_simp <;> with_reducible rfl)
                                try simp only [Act.put, List.setIfInBounds_toArray, List.set_cons_zero, List.set_cons_succ]
                                refine wpAnyH_done (by kernel_rfl) ?_ _
                                refine NoPanic.normal ?_
                                go_wp2_with fail
                                have hBd : Below wr.heap.size wr wr.drew := (Below.refl _ wr).drew
                                exact ⟨⟨g + 1, R2, Fs2, st2, by omega, by simp, by rw [cnt_no HBIT.out, ← HY2.out], Lib.hid HH2.out.no, Lib.hid (HA2.out.below hBd), Lib.hid (ptrs_keep HP2.out (Keep.of_below hBd (fun _ => False)) (fun _ _ _ h => h) (fun _ _ _ h => .inl h)), Lib.hid ⟨blk_below HX2.out.1 hBd, HX2.out.2⟩, Lib.hid (HB2.out.trans (hBd.mono HB2.out.size))⟩, by simp [intOf]; omega⟩
                            · obtain rfl : j = g := by omega
                              have hcg : Cho.cnt R2 j ≤ 5 := by have := Cho.cnt_le R2 j; omega
                              have hE := HEND.out R2 st2 HH2.out
                              obtain ⟨y2, hy2⟩ : ∃ y, y = Cho.cnt R2 j := ⟨_, rfl⟩
                              rw [← hy2] at hcg hE ⊢
                              clear hy2
                              have x2 := blk_cell HX2.out.1 2
                              simp only [List.getElem?_toArray, List.getElem?_cons_zero, List.getElem?_cons_succ] at x2
                              by_cases hq : j < 2 * y2
                              · have hqi : (j : Int) < 2 * (y2 : Int) := by omega
                                rw [if_pos hq] at hE
                                have HMN := Lib.hid (⟨⟨Fs2, st2, HA2.out, HH2.out.plain, hE, HP2.out⟩, HB2.out⟩ : Mid w0 wr j (k + 1) Ap bs ((k : Int) + 1))
                                clear hE
                                go_wp2_with fail
                                exact ⟨⟨k + 1, _, by omega, by simp, rfl, by omega, HMN⟩, by simp [intOf]; omega⟩
                              · have hqi : ¬ (j : Int) < 2 * (y2 : Int) := by omega
                                rw [if_neg hq] at hE
                                have HMN := Lib.hid (⟨⟨Fs2, st2, HA2.out, HH2.out.plain, hE, HP2.out⟩, HB2.out⟩ : Mid w0 wr j (k + 1) Ap bs _)
                                clear hE
                                go_wp2_with fail
                                exact ⟨⟨k + 1, _, by omega, by simp, rfl, by omega, HMN⟩, by simp [intOf]; omega⟩
                        · go_wp2_with (go_at_call 20; refine HPK2.out.mono ?_; rintro r w1 ⟨Aq, cq, rfl, hB1⟩
                                       have HB1 := Lib.hid hB1
                                       clear hB1)
                          generalize hW : w1.alloc _ = W
                          have hBW : Below w1.heap.size w1 W := by rw [← hW]; exact (Below.refl _ w1).alloc (Nat.le_refl _) _
                          have hbX : W.heap[w1.heap.size]? = some (.cells #[.int .i64 1, .int .i64 1, .int .i64 ((k : Int) + 1), .string ByteArray.empty, .slice none 0 0, .int .i64 0] 29 (0, 0)) := by rw [← hW]; exact heap_alloc_new w1 _
                          clear hW
                          have HBW := Lib.hid (show Below wp.heap.size wp W from HB1.out.trans (hBW.mono HB1.out.size))
                          obtain ⟨X, hX⟩ : ∃ X, X = w1.heap.size := ⟨_, rfl⟩
                          rw [← hX] at hbX ⊢
                          have hXs : wp.heap.size ≤ X := by rw [hX]; exact HB1.out.size
                          have HX0 := Lib.hid (show W.heap[X]? = some (.cells #[.int .i64 1, .int .i64 1, .int .i64 ((k : Int) + 1), .string ByteArray.empty, .slice none 0 0, .int .i64 0] 29 (0, 0)) ∧ ∀ m, m < j → ¬ Fs' m X from ⟨hbX, fun m hm hf => by have := ((HAj.out.each m hm).2.1 X hf).2; omega⟩)
                          clear hbX hBW hX
                          go_loopw [15, 21] (fun yv iv wx => ∃ (g : Nat) (R2 : Nat → Bool) (Fs2 : Nat → Nat → Prop) (st2 : Nat → AcS), g ≤ j ∧ iv = .int .i64 (g : Int) ∧ yv = .int .i64 (Cho.cnt R2 g : Int) ∧ RowKit.Hid (Half j g b ((k : Int) + 1) R2 s1 st2) ∧ RowKit.Hid (Accs wx w0.heap.size j bs Fs2 st2) ∧ RowKit.Hid (Ptrs wx w0.heap.size j Ap bs Fs2) ∧ RowKit.Hid (wx.heap[X]? = some (.cells #[.int .i64 1, .int .i64 1, .int .i64 ((k : Int) + 1), .string ByteArray.empty, .slice none 0 0, .int .i64 0] 29 (0, 0)) ∧ ∀ m, m < j → ¬ Fs2 m X) ∧ RowKit.Hid (Below w0.heap.size w0 wx)) (fun _ iv _ => j - (intOf iv).toNat)
                          case atStart => exact ⟨0, fun _ => false, Fs', s1, by omega, rfl, rfl, Lib.hid (Half.start HP1.out), Lib.hid (HAj.out.below HBW.out), Lib.hid (ptrs_keep HRj.out (Keep.of_below HBW.out (fun _ => False)) (fun _ _ _ h => h) (fun _ _ _ h => .inl h)), HX0, Lib.hid (HBj.out.trans (HBW.out.mono HBj.out.size))⟩
                          case round =>
                            obtain ⟨g, R2, Fs2, st2, hg, rfl, rfl, HH2, HA2, HP2, HX2, HB2⟩ := hrel
                            by_cases hgl : g < j
                            · have hgl2 : (g : Int) < (j : Int) := by omega
                              have hg0 : (0 : Int) ≤ (g : Int) := by omega
                              have p3 := pw_cell_below (HB0.out.trans (HB2.out.mono HB0.out.size)) HQ3.out
                              obtain ⟨adp, rfl, q4⟩ := HP2.out.at_ hgl
                              have hbg : R2 g = false := HH2.out.off g (Nat.le_refl _)
                              have hcg : Cho.cnt R2 g ≤ 5 := by have := Cho.cnt_le R2 g; omega
                              obtain ⟨y2, hy2⟩ : ∃ y, y = Cho.cnt R2 g := ⟨_, rfl⟩
                              rw [← hy2] at hcg ⊢
                              have HY2 := Lib.hid hy2
                              have HBIT := Lib.hid hbg
                              have hAcc := HA2.out.each g hgl
                              rw [HH2.out.same g (Nat.le_refl _)] at hAcc
                              obtain ⟨bj, hbje⟩ : ∃ bj, bj = bs.getD g 0 := ⟨_, rfl⟩
                              rw [← hbje] at hAcc q4
                              have HBJ := Lib.hid hbje
                              have HACC := Lib.hid hAcc
                              have x0 := blk_cell HX2.out.1 0
                              have x1 := blk_cell HX2.out.1 1
                              have x2 := blk_cell HX2.out.1 2
                              have x3 := blk_cell HX2.out.1 3
                              have x4 := blk_cell HX2.out.1 4
                              have x5 := blk_cell HX2.out.1 5
                              simp only [List.getElem?_toArray, List.getElem?_cons_zero, List.getElem?_cons_succ] at x0 x1 x2 x3 x4 x5
                              generalize rd lh k = xh at *
                              clear hy2 hbg hAcc hbje
                              by_cases hbit : (bits BinOp.and IntKind.i64 (xh / 2 ^ g) 1 == 1) = true
                              · by_cases hpb : (s1 g).p ≤ b
                                · go_wp2_with fail
                                  refine wp_region_noPanic ?_
                                  refine wp_region_held_drew (S := (fun w' => w'.cell? (a3.add k) = some (.int .i64 xh) ∧ w'.cell? (adp.add g) = some (.pointer (some ⟨bj, 0, none⟩)) ∧ w'.cell? ⟨X, 0, none⟩ = some (.int .i64 1) ∧ w'.cell? ⟨X, 1, none⟩ = some (.int .i64 1) ∧ w'.cell? ⟨X, 2, none⟩ = some (.int .i64 ((k : Int) + 1)) ∧ w'.cell? ⟨X, 3, none⟩ = some (.string ByteArray.empty) ∧ w'.cell? ⟨X, 4, none⟩ = some (.slice none 0 0) ∧ w'.cell? ⟨X, 5, none⟩ = some (.int .i64 0))) (by kernel_rfl) ?zes0 (fun hHeld0 => ?zer0)
                                  case zes0 => (try dsimp only) <;> exact ⟨p3, q4, x0, x1, x2, x3, x4, x5⟩
                                  refine wpAnyH_take (i := 0) (v := ?vze1) (by simp only [List.getElem?_toArray, List.getElem?_cons_zero, List.getElem?_cons_succ]; rfl) (by kernel_rfl) (by kernel_rfl) (by kernel_rfl) (fun _ _ _ h => h) (Or.inl ⟨by rfl, ?hze1⟩) hHeld0 ?qze1
                                  case hze1 => (intro w hSw; (try dsimp only at hSw); go_simp <;> with_reducible rfl)
                                  try simp only [Act.put, List.setIfInBounds_toArray, List.set_cons_zero, List.set_cons_succ]
                                  refine wpAnyH_take (i := 1) (v := ?vze2) (by simp only [List.getElem?_toArray, List.getElem?_cons_zero, List.getElem?_cons_succ]; rfl) (by kernel_rfl) (by kernel_rfl) (by kernel_rfl) (fun _ _ _ h => h) (Or.inl ⟨by rfl, ?hze2⟩) hHeld0 ?qze2
                                  case hze2 => (intro w hSw; (try dsimp only at hSw); go_simp <;> with_reducible rfl)
                                  try simp only [Act.put, List.setIfInBounds_toArray, List.set_cons_zero, List.set_cons_succ]
                                  refine wpAnyH_take (i := 2) (v := ?vze3) (by simp only [List.getElem?_toArray, List.getElem?_cons_zero, List.getElem?_cons_succ]; rfl) (by kernel_rfl) (by kernel_rfl) (by kernel_rfl) (fun _ _ _ h => h) (Or.inl ⟨by rfl, ?hze3⟩) hHeld0 ?qze3
                                  case hze3 => (intro w hSw; (try dsimp only at hSw); go_simp <;> with_reducible rfl)
                                  try simp only [Act.put, List.setIfInBounds_toArray, List.set_cons_zero, List.set_cons_succ]
                                  refine wpAnyH_take (i := 3) (v := ?vze4) (by simp only [List.getElem?_toArray, List.getElem?_cons_zero, List.getElem?_cons_succ]; rfl) (by kernel_rfl) (by kernel_rfl) (by kernel_rfl) (fun _ _ _ h => h) (Or.inl ⟨by rfl, ?hze4⟩) hHeld0 ?qze4
                                  case hze4 => (intro w hSw; (try dsimp only at hSw); go_simp <;> with_reducible rfl)
                                  try simp only [Act.put, List.setIfInBounds_toArray, List.set_cons_zero, List.set_cons_succ]
                                  refine wpAnyH_take (i := 4) (v := ?vze5) (by simp only [List.getElem?_toArray, List.getElem?_cons_zero, List.getElem?_cons_succ]; rfl) (by kernel_rfl) (by kernel_rfl) (by kernel_rfl) (fun _ _ _ h => h) (Or.inl ⟨by rfl, ?hze5⟩) hHeld0 ?qze5
                                  case hze5 => (intro w hSw; (try dsimp only at hSw); go_simp <;> with_reducible rfl)
                                  try simp only [Act.put, List.setIfInBounds_toArray, List.set_cons_zero, List.set_cons_succ]
                                  refine wpAnyH_take (i := 5) (v := ?vze6) (by simp only [List.getElem?_toArray, List.getElem?_cons_zero, List.getElem?_cons_succ]; rfl) (by kernel_rfl) (by kernel_rfl) (by kernel_rfl) (fun _ _ _ h => h) (Or.inl ⟨by rfl, ?hze6⟩) hHeld0 ?qze6
                                  case hze6 => (intro w hSw; (try dsimp only at hSw); go_simp <;> with_reducible rfl)
                                  try simp only [Act.put, List.setIfInBounds_toArray, List.set_cons_zero, List.set_cons_succ]
                                  refine wpAnyH_take (i := 6) (v := ?vze7) (by simp only [List.getElem?_toArray, List.getElem?_cons_zero, List.getElem?_cons_succ]; rfl) (by kernel_rfl) (by kernel_rfl) (by kernel_rfl) (fun _ _ _ h => h) (Or.inl ⟨by rfl, ?hze7⟩) hHeld0 ?qze7
                                  case hze7 => (intro w hSw; (try dsimp only at hSw); go_simp <;> with_reducible rfl)
                                  try simp only [Act.put, List.setIfInBounds_toArray, List.set_cons_zero, List.set_cons_succ]
                                  refine wpAnyH_take (i := 7) (v := ?vze8) (by simp only [List.getElem?_toArray, List.getElem?_cons_zero, List.getElem?_cons_succ]; rfl) (by kernel_rfl) (by kernel_rfl) (by kernel_rfl) (fun _ _ _ h => h) (Or.inl ⟨by rfl, ?hze8⟩) hHeld0 ?qze8
                                  case hze8 => (intro w hSw; (try dsimp only at hSw); go_simp <;> with_reducible rfl)
                                  try simp only [Act.put, List.setIfInBounds_toArray, List.set_cons_zero, List.set_cons_succ]
                                  refine wpAnyH_take (i := 8) (v := ?vze9) (by simp only [List.getElem?_toArray, List.getElem?_cons_zero, List.getElem?_cons_succ]; rfl) (by kernel_rfl) (by kernel_rfl) (by kernel_rfl) (fun _ _ _ h => h) (Or.inl ⟨by rfl, ?hze9⟩) hHeld0 ?qze9
                                  case hze9 => (intro w hSw; (try dsimp only at hSw); go_simp <;> with_reducible rfl)
                                  try simp only [Act.put, List.setIfInBounds_toArray, List.set_cons_zero, List.set_cons_succ]
                                  try rw [hbit]
                                  try simp only [hbit]
                                  refine wpAnyH_take (i := 9) (v := ?vze10) (by simp only [List.getElem?_toArray, List.getElem?_cons_zero, List.getElem?_cons_succ]; rfl) (by kernel_rfl) (by kernel_rfl) (by kernel_rfl) (fun _ _ _ h => h) (Or.inl ⟨by rfl, ?hze10⟩) hHeld0 ?qze10
                                  case hze10 => (intro w hSw; (try dsimp only at hSw); go_simp <;> with_reducible rfl)
                                  try simp only [Act.put, List.setIfInBounds_toArray, List.set_cons_zero, List.set_cons_succ]
                                  refine wpAnyH_take (i := 10) (v := ?vze11) (by simp only [List.getElem?_toArray, List.getElem?_cons_zero, List.getElem?_cons_succ]; rfl) (by kernel_rfl) (by kernel_rfl) (by kernel_rfl) (fun _ _ _ h => h) (Or.inl ⟨by rfl, ?hze11⟩) hHeld0 ?qze11
                                  case hze11 => (intro w hSw; (try dsimp only at hSw); go_simp <;> with_reducible rfl)
                                  try simp only [Act.put, List.setIfInBounds_toArray, List.set_cons_zero, List.set_cons_succ]
                                  refine wpAnyH_take (i := 11) (v := ?vze12) (by simp only [List.getElem?_toArray, List.getElem?_cons_zero, List.getElem?_cons_succ]; rfl) (by kernel_rfl) (by kernel_rfl) (by kernel_rfl) (fun _ _ _ h => h) (Or.inl ⟨by rfl, ?hze12⟩) hHeld0 ?qze12
                                  case hze12 => (intro w hSw; (try dsimp only at hSw); go_simp <;> with_reducible rfl)
                                  try simp only [Act.put, List.setIfInBounds_toArray, List.set_cons_zero, List.set_cons_succ]
                                  refine wpAnyH_take (i := 12) (v := ?vze13) (by simp only [List.getElem?_toArray, List.getElem?_cons_zero, List.getElem?_cons_succ]; rfl) (by kernel_rfl) (by kernel_rfl) (by kernel_rfl) (fun _ _ _ h => h) (Or.inl ⟨by rfl, ?hze13⟩) hHeld0 ?qze13
                                  case hze13 => (intro w hSw; (try dsimp only at hSw); go_simp <;> with_reducible rfl)
                                  try simp only [Act.put, List.setIfInBounds_toArray, List.set_cons_zero, List.set_cons_succ]
                                  refine wpAnyH_take (i := 13) (v := ?vze14) (by simp only [List.getElem?_toArray, List.getElem?_cons_zero, List.getElem?_cons_succ]; rfl) (by kernel_rfl) (by kernel_rfl) (by kernel_rfl) (fun _ _ _ h => h) (Or.inl ⟨by rfl, ?hze14⟩) hHeld0 ?qze14
                                  case hze14 => (intro w hSw; (try dsimp only at hSw); go_simp <;> with_reducible rfl)
                                  try simp only [Act.put, List.setIfInBounds_toArray, List.set_cons_zero, List.set_cons_succ]
                                  refine wpAnyH_take (i := 14) (v := ?vze15) (by simp only [List.getElem?_toArray, List.getElem?_cons_zero, List.getElem?_cons_succ]; rfl) (by kernel_rfl) (by kernel_rfl) (by kernel_rfl) (fun _ _ _ h => h) (Or.inl ⟨by rfl, ?hze15⟩) hHeld0 ?qze15
                                  case hze15 => (intro w hSw; (try dsimp only at hSw); go_simp <;> with_reducible rfl)
                                  try simp only [Act.put, List.setIfInBounds_toArray, List.set_cons_zero, List.set_cons_succ]
                                  refine wpAnyH_ready (rs := [15]) (by kernel_rfl) (by simp) ?_
                                  refine AllReadyH.cons (by simp only [List.getElem?_toArray, List.getElem?_cons_zero, List.getElem?_cons_succ]; rfl) (fun K hK => ?_) AllReadyH.nil
                                  go_simp
                                  go_at_call 12
                                  obtain ⟨wd, hwd⟩ : ∃ z, z = wr.drew := ⟨_, rfl⟩
                                  rw [← hwd]
                                  have hBd : Below wr.heap.size wr wd := by rw [hwd]; exact (Below.refl _ wr).drew
                                  clear hwd
                                  refine (accept_ok ⟨1, b, 1, 1, ((k : Int) + 1), ByteArray.empty, none, 0, [], 0⟩ bj (s1 g).p (s1 g).o w0.heap.size (Fs2 g) wd (HACC.out.below hBd) (Nat.le_trans HB2.out.size hBd.size) (show (1 : Int) ≤ 1 by decide) (show (1 : Int) ≤ 64 by decide) (show 1 ≤ b by omega) hpb (fun y hy => (HP1.out g hgl y hy).1) ⟨rfl, (show 0 ≤ 9223372036854775807 by decide), fun hp => absurd hp (show ¬ 0 < 0 by decide)⟩ (show 0 ≤ 1000000 by decide) (fun hp => absurd hp (show ¬ 0 < 0 by decide))).mono ?_
                                  rintro r w2 ⟨rfl, A2, c2', hT⟩
                                  obtain ⟨Fs3, hA3, hF3, hK3⟩ := (HA2.out.below hBd).turn hgl (by rw [← HBJ.out]; exact hT)
                                  have p3 := pw_cell_below hBd p3
                                  have q4 := pw_cell_below hBd q4
                                  have x0 := pw_cell_below hBd x0
                                  have x1 := pw_cell_below hBd x1
                                  have x2 := pw_cell_below hBd x2
                                  have x3 := pw_cell_below hBd x3
                                  have x4 := pw_cell_below hBd x4
                                  have x5 := pw_cell_below hBd x5
                                  have hfx : ∀ q, Fs2 g q → w0.heap.size ≤ q := fun q hq => (HACC.out.2.1 q hq).1
                                  have hlt3 : (a3.add k).block < w0.heap.size := Nat.lt_of_lt_of_le (World.block_lt_of_cell? w _ HQ3.out) HB0.out.size
                                  have hXF : ¬ Fs2 g X := HX2.out.2 g hgl
                                  have p3 := hK3.cell p3 (fun hf => by have := hfx _ hf; omega)
                                  have q4 := hK3.cell q4 (fun hf => (HP2.out.off (by omega) adp rfl).2 g hgl (by rw [vadd_block] at hf; exact hf))
                                  have x0 := hK3.cell x0 hXF
                                  have x1 := hK3.cell x1 hXF
                                  have x2 := hK3.cell x2 hXF
                                  have x3 := hK3.cell x3 hXF
                                  have x4 := hK3.cell x4 hXF
                                  have x5 := hK3.cell x5 hXF
                                  have L1 := Lib.hid (HH2.out.yes hpb (y := ⟨1, b, 1, 1, ((k : Int) + 1), ByteArray.empty, A2, c2', [], 0⟩) ⟨rfl, rfl, rfl, rfl⟩)
                                  have L2 := Lib.hid hA3
                                  have L3 := Lib.hid (ptrs_keep (ptrs_keep HP2.out (Keep.of_below hBd (fun _ => False)) (fun _ _ _ h => h) (fun m hm q hf => .inl hf) : Ptrs wd w0.heap.size j (some adp) bs Fs2) hK3 (fun hp a ha => (HP2.out.off hp a ha).2 g hgl) hF3)
                                  have L4 := Lib.hid (show w2.heap[X]? = some (.cells #[.int .i64 1, .int .i64 1, .int .i64 ((k : Int) + 1), .string ByteArray.empty, .slice none 0 0, .int .i64 0] 29 (0, 0)) ∧ ∀ m, m < j → ¬ Fs3 m X from ⟨hK3.blk' (blk_below HX2.out.1 hBd) hXF, fun m hm hf => by
                                    rcases hF3 m hm X hf with h1 | h1
                                    · exact HX2.out.2 m hm h1
                                    · have := (Array.getElem?_eq_some_iff.1 HX2.out.1).1; have := hBd.size; omega⟩)
                                  have L5 := Lib.hid (show Below w0.heap.size w0 w2 from (HB2.out.trans (hBd.mono HB2.out.size)).trans (hK3.to_below (Nat.le_trans HB2.out.size hBd.size) hfx))
                                  clear hT hA3 hF3 hK3 hfx hlt3 hXF hBd
                                  refine hK.out _ _ ?sze16 (fun hHeld1 => ?qze16)
                                  case sze16 => (try dsimp only) <;> exact ⟨p3, q4, x0, x1, x2, x3, x4, x5⟩
                                  clear hK K
                                  try simp only [Act.put, List.setIfInBounds_toArray, List.set_cons_zero, List.set_cons_succ]
                                  refine wpAnyH_take (i := 16) (v := ?vze17) (by simp only [List.getElem?_toArray, List.getElem?_cons_zero, List.getElem?_cons_succ]; rfl) (by kernel_rfl) (by kernel_rfl) (by kernel_rfl) (fun _ _ _ h => h) (Or.inl ⟨by rfl, ?hze17⟩) hHeld1 ?qze17
                                  case hze17 => (intro w hSw; (try dsimp only at hSw); go_simp <;> with_reducible rfl)
                                  try simp only [Act.put, List.setIfInBounds_toArray, List.set_cons_zero, List.set_cons_succ]
                                  refine wpAnyH_take (i := 17) (v := ?vze18) (by simp only [List.getElem?_toArray, List.getElem?_cons_zero, List.getElem?_cons_succ]; rfl) (by kernel_rfl) (by kernel_rfl) (by kernel_rfl) (fun _ _ _ h => h) (Or.inl ⟨by rfl, ?hze18⟩) hHeld1 ?qze18
                                  case hze18 => (intro w hSw; (try dsimp only at hSw); go_simp <;> with_reducible rfl)
                                  try simp only [Act.put, List.setIfInBounds_toArray, List.set_cons_zero, List.set_cons_succ]
                                  refine wpAnyH_done (by kernel_rfl) ?_ _
                                  refine NoPanic.normal ?_
                                  go_wp2_with fail
                                  exact ⟨⟨g + 1, plus R2 g, Fs3, _, by omega, by simp, by rw [cnt_plus, ← HY2.out]; push_cast; rfl, L1, L2, L3, L4, L5⟩, by simp [intOf]; omega⟩
                                · go_wp2_with fail
                                  refine wp_region_noPanic ?_
                                  refine wp_region_held_drew (S := (fun w' => w'.cell? (a3.add k) = some (.int .i64 xh) ∧ w'.cell? (adp.add g) = some (.pointer (some ⟨bj, 0, none⟩)) ∧ w'.cell? ⟨X, 0, none⟩ = some (.int .i64 1) ∧ w'.cell? ⟨X, 1, none⟩ = some (.int .i64 1) ∧ w'.cell? ⟨X, 2, none⟩ = some (.int .i64 ((k : Int) + 1)) ∧ w'.cell? ⟨X, 3, none⟩ = some (.string ByteArray.empty) ∧ w'.cell? ⟨X, 4, none⟩ = some (.slice none 0 0) ∧ w'.cell? ⟨X, 5, none⟩ = some (.int .i64 0))) (by kernel_rfl) ?zfs0 (fun hHeld0 => ?zfr0)
                                  case zfs0 => (try dsimp only) <;> exact ⟨p3, q4, x0, x1, x2, x3, x4, x5⟩
                                  refine wpAnyH_take (i := 0) (v := ?vzf1) (by simp only [List.getElem?_toArray, List.getElem?_cons_zero, List.getElem?_cons_succ]; rfl) (by kernel_rfl) (by kernel_rfl) (by kernel_rfl) (fun _ _ _ h => h) (Or.inl ⟨by rfl, ?hzf1⟩) hHeld0 ?qzf1
                                  case hzf1 => (intro w hSw; (try dsimp only at hSw); go_simp <;> with_reducible rfl)
                                  try simp only [Act.put, List.setIfInBounds_toArray, List.set_cons_zero, List.set_cons_succ]
                                  refine wpAnyH_take (i := 1) (v := ?vzf2) (by simp only [List.getElem?_toArray, List.getElem?_cons_zero, List.getElem?_cons_succ]; rfl) (by kernel_rfl) (by kernel_rfl) (by kernel_rfl) (fun _ _ _ h => h) (Or.inl ⟨by rfl, ?hzf2⟩) hHeld0 ?qzf2
                                  case hzf2 => (intro w hSw; (try dsimp only at hSw); go_simp <;> with_reducible rfl)
                                  try simp only [Act.put, List.setIfInBounds_toArray, List.set_cons_zero, List.set_cons_succ]
                                  refine wpAnyH_take (i := 2) (v := ?vzf3) (by simp only [List.getElem?_toArray, List.getElem?_cons_zero, List.getElem?_cons_succ]; rfl) (by kernel_rfl) (by kernel_rfl) (by kernel_rfl) (fun _ _ _ h => h) (Or.inl ⟨by rfl, ?hzf3⟩) hHeld0 ?qzf3
                                  case hzf3 => (intro w hSw; (try dsimp only at hSw); go_simp <;> with_reducible rfl)
                                  try simp only [Act.put, List.setIfInBounds_toArray, List.set_cons_zero, List.set_cons_succ]
                                  refine wpAnyH_take (i := 3) (v := ?vzf4) (by simp only [List.getElem?_toArray, List.getElem?_cons_zero, List.getElem?_cons_succ]; rfl) (by kernel_rfl) (by kernel_rfl) (by kernel_rfl) (fun _ _ _ h => h) (Or.inl ⟨by rfl, ?hzf4⟩) hHeld0 ?qzf4
                                  case hzf4 => (intro w hSw; (try dsimp only at hSw); go_simp <;> with_reducible rfl)
                                  try simp only [Act.put, List.setIfInBounds_toArray, List.set_cons_zero, List.set_cons_succ]
                                  refine wpAnyH_take (i := 4) (v := ?vzf5) (by simp only [List.getElem?_toArray, List.getElem?_cons_zero, List.getElem?_cons_succ]; rfl) (by kernel_rfl) (by kernel_rfl) (by kernel_rfl) (fun _ _ _ h => h) (Or.inl ⟨by rfl, ?hzf5⟩) hHeld0 ?qzf5
                                  case hzf5 => (intro w hSw; (try dsimp only at hSw); go_simp <;> with_reducible rfl)
                                  try simp only [Act.put, List.setIfInBounds_toArray, List.set_cons_zero, List.set_cons_succ]
                                  refine wpAnyH_take (i := 5) (v := ?vzf6) (by simp only [List.getElem?_toArray, List.getElem?_cons_zero, List.getElem?_cons_succ]; rfl) (by kernel_rfl) (by kernel_rfl) (by kernel_rfl) (fun _ _ _ h => h) (Or.inl ⟨by rfl, ?hzf6⟩) hHeld0 ?qzf6
                                  case hzf6 => (intro w hSw; (try dsimp only at hSw); go_simp <;> with_reducible rfl)
                                  try simp only [Act.put, List.setIfInBounds_toArray, List.set_cons_zero, List.set_cons_succ]
                                  refine wpAnyH_take (i := 6) (v := ?vzf7) (by simp only [List.getElem?_toArray, List.getElem?_cons_zero, List.getElem?_cons_succ]; rfl) (by kernel_rfl) (by kernel_rfl) (by kernel_rfl) (fun _ _ _ h => h) (Or.inl ⟨by rfl, ?hzf7⟩) hHeld0 ?qzf7
                                  case hzf7 => (intro w hSw; (try dsimp only at hSw); go_simp <;> with_reducible rfl)
                                  try simp only [Act.put, List.setIfInBounds_toArray, List.set_cons_zero, List.set_cons_succ]
                                  refine wpAnyH_take (i := 7) (v := ?vzf8) (by simp only [List.getElem?_toArray, List.getElem?_cons_zero, List.getElem?_cons_succ]; rfl) (by kernel_rfl) (by kernel_rfl) (by kernel_rfl) (fun _ _ _ h => h) (Or.inl ⟨by rfl, ?hzf8⟩) hHeld0 ?qzf8
                                  case hzf8 => (intro w hSw; (try dsimp only at hSw); go_simp <;> with_reducible rfl)
                                  try simp only [Act.put, List.setIfInBounds_toArray, List.set_cons_zero, List.set_cons_succ]
                                  refine wpAnyH_take (i := 8) (v := ?vzf9) (by simp only [List.getElem?_toArray, List.getElem?_cons_zero, List.getElem?_cons_succ]; rfl) (by kernel_rfl) (by kernel_rfl) (by kernel_rfl) (fun _ _ _ h => h) (Or.inl ⟨by rfl, ?hzf9⟩) hHeld0 ?qzf9
                                  case hzf9 => (intro w hSw; (try dsimp only at hSw); go_simp <;> with_reducible rfl)
                                  try simp only [Act.put, List.setIfInBounds_toArray, List.set_cons_zero, List.set_cons_succ]
                                  try rw [hbit]
                                  try simp only [hbit]
                                  refine wpAnyH_take (i := 9) (v := ?vzf10) (by simp only [List.getElem?_toArray, List.getElem?_cons_zero, List.getElem?_cons_succ]; rfl) (by kernel_rfl) (by kernel_rfl) (by kernel_rfl) (fun _ _ _ h => h) (Or.inl ⟨by rfl, ?hzf10⟩) hHeld0 ?qzf10
                                  case hzf10 => (intro w hSw; (try dsimp only at hSw); go_simp <;> with_reducible rfl)
                                  try simp only [Act.put, List.setIfInBounds_toArray, List.set_cons_zero, List.set_cons_succ]
                                  refine wpAnyH_take (i := 10) (v := ?vzf11) (by simp only [List.getElem?_toArray, List.getElem?_cons_zero, List.getElem?_cons_succ]; rfl) (by kernel_rfl) (by kernel_rfl) (by kernel_rfl) (fun _ _ _ h => h) (Or.inl ⟨by rfl, ?hzf11⟩) hHeld0 ?qzf11
                                  case hzf11 => (intro w hSw; (try dsimp only at hSw); go_simp <;> with_reducible rfl)
                                  try simp only [Act.put, List.setIfInBounds_toArray, List.set_cons_zero, List.set_cons_succ]
                                  refine wpAnyH_take (i := 11) (v := ?vzf12) (by simp only [List.getElem?_toArray, List.getElem?_cons_zero, List.getElem?_cons_succ]; rfl) (by kernel_rfl) (by kernel_rfl) (by kernel_rfl) (fun _ _ _ h => h) (Or.inl ⟨by rfl, ?hzf12⟩) hHeld0 ?qzf12
                                  case hzf12 => (intro w hSw; (try dsimp only at hSw); go_simp <;> with_reducible rfl)
                                  try simp only [Act.put, List.setIfInBounds_toArray, List.set_cons_zero, List.set_cons_succ]
                                  refine wpAnyH_take (i := 12) (v := ?vzf13) (by simp only [List.getElem?_toArray, List.getElem?_cons_zero, List.getElem?_cons_succ]; rfl) (by kernel_rfl) (by kernel_rfl) (by kernel_rfl) (fun _ _ _ h => h) (Or.inl ⟨by rfl, ?hzf13⟩) hHeld0 ?qzf13
                                  case hzf13 => (intro w hSw; (try dsimp only at hSw); go_simp <;> with_reducible rfl)
                                  try simp only [Act.put, List.setIfInBounds_toArray, List.set_cons_zero, List.set_cons_succ]
                                  refine wpAnyH_take (i := 13) (v := ?vzf14) (by simp only [List.getElem?_toArray, List.getElem?_cons_zero, List.getElem?_cons_succ]; rfl) (by kernel_rfl) (by kernel_rfl) (by kernel_rfl) (fun _ _ _ h => h) (Or.inl ⟨by rfl, ?hzf14⟩) hHeld0 ?qzf14
                                  case hzf14 => (intro w hSw; (try dsimp only at hSw); go_simp <;> with_reducible rfl)
                                  try simp only [Act.put, List.setIfInBounds_toArray, List.set_cons_zero, List.set_cons_succ]
                                  refine wpAnyH_take (i := 14) (v := ?vzf15) (by simp only [List.getElem?_toArray, List.getElem?_cons_zero, List.getElem?_cons_succ]; rfl) (by kernel_rfl) (by kernel_rfl) (by kernel_rfl) (fun _ _ _ h => h) (Or.inl ⟨by rfl, ?hzf15⟩) hHeld0 ?qzf15
                                  case hzf15 => (intro w hSw; (try dsimp only at hSw); go_simp <;> with_reducible rfl)
                                  try simp only [Act.put, List.setIfInBounds_toArray, List.set_cons_zero, List.set_cons_succ]
                                  refine wpAnyH_ready (rs := [15]) (by kernel_rfl) (by simp) ?_
                                  refine AllReadyH.cons (by simp only [List.getElem?_toArray, List.getElem?_cons_zero, List.getElem?_cons_succ]; rfl) (fun K hK => ?_) AllReadyH.nil
                                  go_simp
                                  go_at_call 12
                                  obtain ⟨wd, hwd⟩ : ∃ z, z = wr.drew := ⟨_, rfl⟩
                                  rw [← hwd]
                                  have hBd : Below wr.heap.size wr wd := by rw [hwd]; exact (Below.refl _ wr).drew
                                  clear hwd
                                  have hcb : wd.cell? ⟨bj, 0, none⟩ = some (.int .i64 (s1 g).p) := by
                                    obtain ⟨_, _, m, h3, _⟩ := HACC.out.below hBd
                                    exact blk_cell h3 0
                                  refine (accept_stale bj b (s1 g).p 1 (.bool true) 1 1 ((k : Int) + 1) 0 ByteArray.empty _ wd hcb (by omega) (by omega) (by decide) (by decide)).mono ?_
                                  rintro r w2 ⟨rfl, hB9⟩
                                  have p3 := pw_cell_below hBd p3
                                  have q4 := pw_cell_below hBd q4
                                  have x0 := pw_cell_below hBd x0
                                  have x1 := pw_cell_below hBd x1
                                  have x2 := pw_cell_below hBd x2
                                  have x3 := pw_cell_below hBd x3
                                  have x4 := pw_cell_below hBd x4
                                  have x5 := pw_cell_below hBd x5
                                  have p3 := pw_cell_below hB9 p3
                                  have q4 := pw_cell_below hB9 q4
                                  have x0 := pw_cell_below hB9 x0
                                  have x1 := pw_cell_below hB9 x1
                                  have x2 := pw_cell_below hB9 x2
                                  have x3 := pw_cell_below hB9 x3
                                  have x4 := pw_cell_below hB9 x4
                                  have x5 := pw_cell_below hB9 x5
                                  have hB10 : Below wr.heap.size wr w2 := hBd.trans (hB9.mono hBd.size)
                                  have L1 := Lib.hid HH2.out.no
                                  have L2 := Lib.hid (HA2.out.below hB10)
                                  have L3 := Lib.hid (ptrs_keep HP2.out (Keep.of_below hB10 (fun _ => False)) (fun _ _ _ h => h) (fun m hm q hf => .inl hf))
                                  have L4 := Lib.hid (show w2.heap[X]? = some (.cells #[.int .i64 1, .int .i64 1, .int .i64 ((k : Int) + 1), .string ByteArray.empty, .slice none 0 0, .int .i64 0] 29 (0, 0)) ∧ ∀ m, m < j → ¬ Fs2 m X from ⟨blk_below HX2.out.1 hB10, HX2.out.2⟩)
                                  have L5 := Lib.hid (HB2.out.trans (hB10.mono HB2.out.size))
                                  clear hB9 hB10 hBd hcb
                                  refine hK.out _ _ ?szf16 (fun hHeld1 => ?qzf16)
                                  case szf16 => (try dsimp only) <;> exact ⟨p3, q4, x0, x1, x2, x3, x4, x5⟩
                                  clear hK K
                                  try simp only [Act.put, List.setIfInBounds_toArray, List.set_cons_zero, List.set_cons_succ]
                                  refine wpAnyH_take (i := 16) (v := ?vzf17) (by simp only [List.getElem?_toArray, List.getElem?_cons_zero, List.getElem?_cons_succ]; rfl) (by kernel_rfl) (by kernel_rfl) (by kernel_rfl) (fun _ _ _ h => h) (Or.inl ⟨by rfl, ?hzf17⟩) hHeld1 ?qzf17
                                  case hzf17 => (intro w hSw; (try dsimp only at hSw); go_simp <;> with_reducible rfl)
                                  try simp only [Act.put, List.setIfInBounds_toArray, List.set_cons_zero, List.set_cons_succ]
                                  refine wpAnyH_take (i := 17) (v := ?vzf18) (by simp only [List.getElem?_toArray, List.getElem?_cons_zero, List.getElem?_cons_succ]; rfl) (by kernel_rfl) (by kernel_rfl) (by kernel_rfl) (fun _ _ _ h => h) (Or.inl ⟨by rfl, ?hzf18⟩) hHeld1 ?qzf18
                                  case hzf18 => (intro w hSw; (try dsimp only at hSw); go_simp <;> with_reducible rfl)
                                  try simp only [Act.put, List.setIfInBounds_toArray, List.set_cons_zero, List.set_cons_succ]
                                  refine wpAnyH_done (by kernel_rfl) ?_ _
                                  refine NoPanic.normal ?_
                                  go_wp2_with fail
                                  exact ⟨⟨g + 1, R2, Fs2, st2, by omega, by simp, by rw [cnt_no HBIT.out, ← HY2.out], L1, L2, L3, L4, L5⟩, by simp [intOf]; omega⟩
                              · have hbit : (bits BinOp.and IntKind.i64 (xh / 2 ^ g) 1 == 1) = false := by simpa using hbit
                                go_wp2_with fail
                                refine wp_region_noPanic ?_
                                refine wp_region_held_drew (S := (fun w' => w'.cell? (a3.add k) = some (.int .i64 xh) ∧ w'.cell? (adp.add g) = some (.pointer (some ⟨bj, 0, none⟩)) ∧ w'.cell? ⟨X, 0, none⟩ = some (.int .i64 1) ∧ w'.cell? ⟨X, 1, none⟩ = some (.int .i64 1) ∧ w'.cell? ⟨X, 2, none⟩ = some (.int .i64 ((k : Int) + 1)) ∧ w'.cell? ⟨X, 3, none⟩ = some (.string ByteArray.empty) ∧ w'.cell? ⟨X, 4, none⟩ = some (.slice none 0 0) ∧ w'.cell? ⟨X, 5, none⟩ = some (.int .i64 0))) (by kernel_rfl) ?zgs0 (fun hHeld0 => ?zgr0)
                                case zgs0 => (try dsimp only) <;> exact ⟨p3, q4, x0, x1, x2, x3, x4, x5⟩
                                refine wpAnyH_take (i := 0) (v := ?vzg1) (by simp only [List.getElem?_toArray, List.getElem?_cons_zero, List.getElem?_cons_succ]; rfl) (by kernel_rfl) (by kernel_rfl) (by kernel_rfl) (fun _ _ _ h => h) (Or.inl ⟨by rfl, ?hzg1⟩) hHeld0 ?qzg1
                                case hzg1 => (intro w hSw; (try dsimp only at hSw); go_simp <;> with_reducible rfl)
                                try simp only [Act.put, List.setIfInBounds_toArray, List.set_cons_zero, List.set_cons_succ]
                                refine wpAnyH_take (i := 1) (v := ?vzg2) (by simp only [List.getElem?_toArray, List.getElem?_cons_zero, List.getElem?_cons_succ]; rfl) (by kernel_rfl) (by kernel_rfl) (by kernel_rfl) (fun _ _ _ h => h) (Or.inl ⟨by rfl, ?hzg2⟩) hHeld0 ?qzg2
                                case hzg2 => (intro w hSw; (try dsimp only at hSw); go_simp <;> with_reducible rfl)
                                try simp only [Act.put, List.setIfInBounds_toArray, List.set_cons_zero, List.set_cons_succ]
                                refine wpAnyH_take (i := 2) (v := ?vzg3) (by simp only [List.getElem?_toArray, List.getElem?_cons_zero, List.getElem?_cons_succ]; rfl) (by kernel_rfl) (by kernel_rfl) (by kernel_rfl) (fun _ _ _ h => h) (Or.inl ⟨by rfl, ?hzg3⟩) hHeld0 ?qzg3
                                case hzg3 => (intro w hSw; (try dsimp only at hSw); go_simp <;> with_reducible rfl)
                                try simp only [Act.put, List.setIfInBounds_toArray, List.set_cons_zero, List.set_cons_succ]
                                refine wpAnyH_take (i := 3) (v := ?vzg4) (by simp only [List.getElem?_toArray, List.getElem?_cons_zero, List.getElem?_cons_succ]; rfl) (by kernel_rfl) (by kernel_rfl) (by kernel_rfl) (fun _ _ _ h => h) (Or.inl ⟨by rfl, ?hzg4⟩) hHeld0 ?qzg4
                                case hzg4 => (intro w hSw; (try dsimp only at hSw); go_simp <;> with_reducible rfl)
                                try simp only [Act.put, List.setIfInBounds_toArray, List.set_cons_zero, List.set_cons_succ]
                                refine wpAnyH_take (i := 4) (v := ?vzg5) (by simp only [List.getElem?_toArray, List.getElem?_cons_zero, List.getElem?_cons_succ]; rfl) (by kernel_rfl) (by kernel_rfl) (by kernel_rfl) (fun _ _ _ h => h) (Or.inl ⟨by rfl, ?hzg5⟩) hHeld0 ?qzg5
                                case hzg5 => (intro w hSw; (try dsimp only at hSw); go_simp <;> with_reducible rfl)
                                try simp only [Act.put, List.setIfInBounds_toArray, List.set_cons_zero, List.set_cons_succ]
                                refine wpAnyH_take (i := 5) (v := ?vzg6) (by simp only [List.getElem?_toArray, List.getElem?_cons_zero, List.getElem?_cons_succ]; rfl) (by kernel_rfl) (by kernel_rfl) (by kernel_rfl) (fun _ _ _ h => h) (Or.inl ⟨by rfl, ?hzg6⟩) hHeld0 ?qzg6
                                case hzg6 => (intro w hSw; (try dsimp only at hSw); go_simp <;> with_reducible rfl)
                                try simp only [Act.put, List.setIfInBounds_toArray, List.set_cons_zero, List.set_cons_succ]
                                refine wpAnyH_take (i := 6) (v := ?vzg7) (by simp only [List.getElem?_toArray, List.getElem?_cons_zero, List.getElem?_cons_succ]; rfl) (by kernel_rfl) (by kernel_rfl) (by kernel_rfl) (fun _ _ _ h => h) (Or.inl ⟨by rfl, ?hzg7⟩) hHeld0 ?qzg7
                                case hzg7 => (intro w hSw; (try dsimp only at hSw); go_simp <;> with_reducible rfl)
                                try simp only [Act.put, List.setIfInBounds_toArray, List.set_cons_zero, List.set_cons_succ]
                                refine wpAnyH_take (i := 7) (v := ?vzg8) (by simp only [List.getElem?_toArray, List.getElem?_cons_zero, List.getElem?_cons_succ]; rfl) (by kernel_rfl) (by kernel_rfl) (by kernel_rfl) (fun _ _ _ h => h) (Or.inl ⟨by rfl, ?hzg8⟩) hHeld0 ?qzg8
                                case hzg8 => (intro w hSw; (try dsimp only at hSw); go_simp <;> with_reducible rfl)
                                try simp only [Act.put, List.setIfInBounds_toArray, List.set_cons_zero, List.set_cons_succ]
                                refine wpAnyH_take (i := 8) (v := ?vzg9) (by simp only [List.getElem?_toArray, List.getElem?_cons_zero, List.getElem?_cons_succ]; rfl) (by kernel_rfl) (by kernel_rfl) (by kernel_rfl) (fun _ _ _ h => h) (Or.inl ⟨by rfl, ?hzg9⟩) hHeld0 ?qzg9
                                case hzg9 => (intro w hSw; (try dsimp only at hSw); go_simp <;> with_reducible rfl)
                                try simp only [Act.put, List.setIfInBounds_toArray, List.set_cons_zero, List.set_cons_succ]
                                try rw [hbit]
                                try simp only [hbit]
                                refine wpAnyH_take (i := 9) (v := undef) (by simp only [List.getElem?_toArray, List.getElem?_cons_zero, List.getElem?_cons_succ]; rfl) (by kernel_rfl) (by kernel_rfl) (by kernel_rfl) (fun _ _ _ h => h) (Or.inr ⟨by rfl, rfl⟩) hHeld0 ?qzg10
                                try simp only [Act.put, List.setIfInBounds_toArray, List.set_cons_zero, List.set_cons_succ]
                                refine wpAnyH_take (i := 10) (v := undef) (by simp only [List.getElem?_toArray, List.getElem?_cons_zero, List.getElem?_cons_succ]; rfl) (by kernel_rfl) (by kernel_rfl) (by kernel_rfl) (fun _ _ _ h => h) (Or.inr ⟨by rfl, rfl⟩) hHeld0 ?qzg11
                                try simp only [Act.put, List.setIfInBounds_toArray, List.set_cons_zero, List.set_cons_succ]
                                refine wpAnyH_take (i := 11) (v := undef) (by simp only [List.getElem?_toArray, List.getElem?_cons_zero, List.getElem?_cons_succ]; rfl) (by kernel_rfl) (by kernel_rfl) (by kernel_rfl) (fun _ _ _ h => h) (Or.inr ⟨by rfl, rfl⟩) hHeld0 ?qzg12
                                try simp only [Act.put, List.setIfInBounds_toArray, List.set_cons_zero, List.set_cons_succ]
                                refine wpAnyH_take (i := 12) (v := undef) (by simp only [List.getElem?_toArray, List.getElem?_cons_zero, List.getElem?_cons_succ]; rfl) (by kernel_rfl) (by kernel_rfl) (by kernel_rfl) (fun _ _ _ h => h) (Or.inr ⟨by rfl, rfl⟩) hHeld0 ?qzg13
                                try simp only [Act.put, List.setIfInBounds_toArray, List.set_cons_zero, List.set_cons_succ]
                                refine wpAnyH_take (i := 13) (v := undef) (by simp only [List.getElem?_toArray, List.getElem?_cons_zero, List.getElem?_cons_succ]; rfl) (by kernel_rfl) (by kernel_rfl) (by kernel_rfl) (fun _ _ _ h => h) (Or.inr ⟨by rfl, rfl⟩) hHeld0 ?qzg14
                                try simp only [Act.put, List.setIfInBounds_toArray, List.set_cons_zero, List.set_cons_succ]
                                refine wpAnyH_take (i := 14) (v := undef) (by simp only [List.getElem?_toArray, List.getElem?_cons_zero, List.getElem?_cons_succ]; rfl) (by kernel_rfl) (by kernel_rfl) (by kernel_rfl) (fun _ _ _ h => h) (Or.inr ⟨by rfl, rfl⟩) hHeld0 ?qzg15
                                try simp only [Act.put, List.setIfInBounds_toArray, List.set_cons_zero, List.set_cons_succ]
                                refine wpAnyH_take (i := 15) (v := undef) (by simp only [List.getElem?_toArray, List.getElem?_cons_zero, List.getElem?_cons_succ]; rfl) (by kernel_rfl) (by kernel_rfl) (by kernel_rfl) (fun _ _ _ h => h) (Or.inr ⟨by rfl, rfl⟩) hHeld0 ?qzg16
                                try simp only [Act.put, List.setIfInBounds_toArray, List.set_cons_zero, List.set_cons_succ]
                                refine wpAnyH_take (i := 16) (v := undef) (by simp only [List.getElem?_toArray, List.getElem?_cons_zero, List.getElem?_cons_succ]; rfl) (by kernel_rfl) (by kernel_rfl) (by kernel_rfl) (fun _ _ _ h => h) (Or.inr ⟨by rfl, rfl⟩) hHeld0 ?qzg17
                                try simp only [Act.put, List.setIfInBounds_toArray, List.set_cons_zero, List.set_cons_succ]
                                refine wpAnyH_take (i := 17) (v := ?vzg18) (by simp only [List.getElem?_toArray, List.getElem?_cons_zero, List.getElem?_cons_succ]; rfl) (by kernel_rfl) (by kernel_rfl) (by kernel_rfl) (fun _ _ _ h => h) (Or.inl ⟨by rfl, ?hzg18⟩) hHeld0 ?qzg18
                                case hzg18 => (intro w hSw; (try dsimp only at hSw); go_simp <;> with_reducible rfl)
                                try simp only [Act.put, List.setIfInBounds_toArray, List.set_cons_zero, List.set_cons_succ]
                                refine wpAnyH_done (by kernel_rfl) ?_ _
                                refine NoPanic.normal ?_
                                go_wp2_with fail
                                have hBd : Below wr.heap.size wr wr.drew := (Below.refl _ wr).drew
                                exact ⟨⟨g + 1, R2, Fs2, st2, by omega, by simp, by rw [cnt_no HBIT.out, ← HY2.out], Lib.hid HH2.out.no, Lib.hid (HA2.out.below hBd), Lib.hid (ptrs_keep HP2.out (Keep.of_below hBd (fun _ => False)) (fun _ _ _ h => h) (fun _ _ _ h => .inl h)), Lib.hid ⟨blk_below HX2.out.1 hBd, HX2.out.2⟩, Lib.hid (HB2.out.trans (hBd.mono HB2.out.size))⟩, by simp [intOf]; omega⟩
                            · obtain rfl : j = g := by omega
                              have hcg : Cho.cnt R2 j ≤ 5 := by have := Cho.cnt_le R2 j; omega
                              have hE := HEND.out R2 st2 HH2.out
                              obtain ⟨y2, hy2⟩ : ∃ y, y = Cho.cnt R2 j := ⟨_, rfl⟩
                              rw [← hy2] at hcg hE ⊢
                              clear hy2
                              have x2 := blk_cell HX2.out.1 2
                              simp only [List.getElem?_toArray, List.getElem?_cons_zero, List.getElem?_cons_succ] at x2
                              by_cases hq : j < 2 * y2
                              · have hqi : (j : Int) < 2 * (y2 : Int) := by omega
                                rw [if_pos hq] at hE
                                have HMN := Lib.hid (⟨⟨Fs2, st2, HA2.out, HH2.out.plain, hE, HP2.out⟩, HB2.out⟩ : Mid w0 wr j (k + 1) Ap bs ((k : Int) + 1))
                                clear hE
                                go_wp2_with fail
                                exact ⟨⟨k + 1, _, by omega, by simp, rfl, by omega, HMN⟩, by simp [intOf]; omega⟩
                              · have hqi : ¬ (j : Int) < 2 * (y2 : Int) := by omega
                                rw [if_neg hq] at hE
                                have HMN := Lib.hid (⟨⟨Fs2, st2, HA2.out, HH2.out.plain, hE, HP2.out⟩, HB2.out⟩ : Mid w0 wr j (k + 1) Ap bs _)
                                clear hE
                                go_wp2_with fail
                                exact ⟨⟨k + 1, _, by omega, by simp, rfl, by omega, HMN⟩, by simp [intOf]; omega⟩
                      · rw [hby, hps] at HPK
                        have HV2 := Lib.hid (Or.inl (hsome HRR.out.2) : (∃ g, g < j ∧ Cho.rdy b R (ab st) g = true ∧ ∃ bb, (ab st g).o = some (bb, y.q) ∧ ∀ i, i < j → Cho.rdy b R (ab st) i = true → ∀ b' v', (ab st i).o = some (b', v') → b' ≤ bb) ∨ ((∀ i, i < j → Cho.rdy b R (ab st) i = true → (ab st i).o = none) ∧ y.q = (k : Int) + 1))
                        have HPK2 := Lib.hid (show Calls Tryd.prog 20 #[.slice Au hv.length cu, .int .i64 1] wp fun r w' => ∃ A1 c1, r = .returned (.tuple #[.agg #[.int .i64 y.kd, .int .i64 y.c, .int .i64 y.q, .string y.data, .slice A1 0 c1, .int .i64 y.dst], .bool true]) ∧ Below wp.heap.size wp w' from HPK.out.mono (fun r w' ⟨A1, c1, h1, h2, h3⟩ => ⟨A1, c1, by rw [h1]; unfold entV; rw [hym]; rfl, h3⟩))
                        clear HPK hby hps hsome hym
                        obtain ⟨v, hv3⟩ : ∃ v, v = y.q := ⟨_, rfl⟩
                        rw [← hv3] at HV2 HPK2
                        clear hv3
                        have HEND := Lib.hid (fun R2 st2 (h : Half j j b v R2 s1 st2) => round_end HI.out (by omega) HBM.out HRR.out.2 HS1.out HMAJ.out HV2.out h)
                        have HROUND := HI.out.round b v R R (by omega) HBM.out (by rw [rdy_cnt HRR.out.2]; exact HMAJ.out) HV2.out
                        have hv1 : 1 ≤ v := HROUND.2.1
                        have hcc : 0 = ch ∨ v = ch := by
                          by_cases hc : 0 < ch
                          · exact .inr (HROUND.1 hc)
                          · exact .inl (by omega)
                        clear HROUND
                        rcases hcc with rfl | rfl
                        · go_wp2_with (go_at_call 20; refine HPK2.out.mono ?_; rintro r w1 ⟨Aq, cq, rfl, hB1⟩
                                       have HB1 := Lib.hid hB1
                                       clear hB1)
                          generalize hW : w1.alloc _ = W
                          have hBW : Below w1.heap.size w1 W := by rw [← hW]; exact (Below.refl _ w1).alloc (Nat.le_refl _) _
                          have hbX : W.heap[w1.heap.size]? = some (.cells #[.int .i64 y.kd, .int .i64 y.c, .int .i64 v, .string y.data, .slice Aq 0 cq, .int .i64 y.dst] 29 (0, 0)) := by rw [← hW]; exact heap_alloc_new w1 _
                          clear hW
                          have HBW := Lib.hid (show Below wp.heap.size wp W from HB1.out.trans (hBW.mono HB1.out.size))
                          obtain ⟨X, hX⟩ : ∃ X, X = w1.heap.size := ⟨_, rfl⟩
                          rw [← hX] at hbX ⊢
                          have hXs : wp.heap.size ≤ X := by rw [hX]; exact HB1.out.size
                          have HX0 := Lib.hid (show W.heap[X]? = some (.cells #[.int .i64 y.kd, .int .i64 y.c, .int .i64 v, .string y.data, .slice Aq 0 cq, .int .i64 y.dst] 29 (0, 0)) ∧ ∀ m, m < j → ¬ Fs' m X from ⟨hbX, fun m hm hf => by have := ((HAj.out.each m hm).2.1 X hf).2; omega⟩)
                          clear hbX hBW hX
                          go_loopw [15, 21] (fun yv iv wx => ∃ (g : Nat) (R2 : Nat → Bool) (Fs2 : Nat → Nat → Prop) (st2 : Nat → AcS), g ≤ j ∧ iv = .int .i64 (g : Int) ∧ yv = .int .i64 (Cho.cnt R2 g : Int) ∧ RowKit.Hid (Half j g b v R2 s1 st2) ∧ RowKit.Hid (Accs wx w0.heap.size j bs Fs2 st2) ∧ RowKit.Hid (Ptrs wx w0.heap.size j Ap bs Fs2) ∧ RowKit.Hid (wx.heap[X]? = some (.cells #[.int .i64 y.kd, .int .i64 y.c, .int .i64 v, .string y.data, .slice Aq 0 cq, .int .i64 y.dst] 29 (0, 0)) ∧ ∀ m, m < j → ¬ Fs2 m X) ∧ RowKit.Hid (Below w0.heap.size w0 wx)) (fun _ iv _ => j - (intOf iv).toNat)
                          case atStart => exact ⟨0, fun _ => false, Fs', s1, by omega, rfl, rfl, Lib.hid (Half.start HP1.out), Lib.hid (HAj.out.below HBW.out), Lib.hid (ptrs_keep HRj.out (Keep.of_below HBW.out (fun _ => False)) (fun _ _ _ h => h) (fun _ _ _ h => .inl h)), HX0, Lib.hid (HBj.out.trans (HBW.out.mono HBj.out.size))⟩
                          case round =>
                            obtain ⟨g, R2, Fs2, st2, hg, rfl, rfl, HH2, HA2, HP2, HX2, HB2⟩ := hrel
                            by_cases hgl : g < j
                            · have hgl2 : (g : Int) < (j : Int) := by omega
                              have hg0 : (0 : Int) ≤ (g : Int) := by omega
                              have p3 := pw_cell_below (HB0.out.trans (HB2.out.mono HB0.out.size)) HQ3.out
                              obtain ⟨adp, rfl, q4⟩ := HP2.out.at_ hgl
                              have hbg : R2 g = false := HH2.out.off g (Nat.le_refl _)
                              have hcg : Cho.cnt R2 g ≤ 5 := by have := Cho.cnt_le R2 g; omega
                              obtain ⟨y2, hy2⟩ : ∃ y, y = Cho.cnt R2 g := ⟨_, rfl⟩
                              rw [← hy2] at hcg ⊢
                              have HY2 := Lib.hid hy2
                              have HBIT := Lib.hid hbg
                              have hAcc := HA2.out.each g hgl
                              rw [HH2.out.same g (Nat.le_refl _)] at hAcc
                              obtain ⟨bj, hbje⟩ : ∃ bj, bj = bs.getD g 0 := ⟨_, rfl⟩
                              rw [← hbje] at hAcc q4
                              have HBJ := Lib.hid hbje
                              have HACC := Lib.hid hAcc
                              have x0 := blk_cell HX2.out.1 0
                              have x1 := blk_cell HX2.out.1 1
                              have x2 := blk_cell HX2.out.1 2
                              have x3 := blk_cell HX2.out.1 3
                              have x4 := blk_cell HX2.out.1 4
                              have x5 := blk_cell HX2.out.1 5
                              simp only [List.getElem?_toArray, List.getElem?_cons_zero, List.getElem?_cons_succ] at x0 x1 x2 x3 x4 x5
                              generalize rd lh k = xh at *
                              clear hy2 hbg hAcc hbje
                              by_cases hbit : (bits BinOp.and IntKind.i64 (xh / 2 ^ g) 1 == 1) = true
                              · by_cases hpb : (s1 g).p ≤ b
                                · go_wp2_with fail
                                  refine wp_region_noPanic ?_
                                  refine wp_region_held_drew (S := (fun w' => w'.cell? (a3.add k) = some (.int .i64 xh) ∧ w'.cell? (adp.add g) = some (.pointer (some ⟨bj, 0, none⟩)) ∧ w'.cell? ⟨X, 0, none⟩ = some (.int .i64 y.kd) ∧ w'.cell? ⟨X, 1, none⟩ = some (.int .i64 y.c) ∧ w'.cell? ⟨X, 2, none⟩ = some (.int .i64 v) ∧ w'.cell? ⟨X, 3, none⟩ = some (.string y.data) ∧ w'.cell? ⟨X, 4, none⟩ = some (.slice Aq 0 cq) ∧ w'.cell? ⟨X, 5, none⟩ = some (.int .i64 y.dst))) (by kernel_rfl) ?zhs0 (fun hHeld0 => ?zhr0)
                                  case zhs0 => (try dsimp only) <;> exact ⟨p3, q4, x0, x1, x2, x3, x4, x5⟩
                                  refine wpAnyH_take (i := 0) (v := ?vzh1) (by simp only [List.getElem?_toArray, List.getElem?_cons_zero, List.getElem?_cons_succ]; rfl) (by kernel_rfl) (by kernel_rfl) (by kernel_rfl) (fun _ _ _ h => h) (Or.inl ⟨by rfl, ?hzh1⟩) hHeld0 ?qzh1
                                  case hzh1 => (intro w hSw; (try dsimp only at hSw); go_simp <;> with_reducible rfl)
                                  try simp only [Act.put, List.setIfInBounds_toArray, List.set_cons_zero, List.set_cons_succ]
                                  refine wpAnyH_take (i := 1) (v := ?vzh2) (by simp only [List.getElem?_toArray, List.getElem?_cons_zero, List.getElem?_cons_succ]; rfl) (by kernel_rfl) (by kernel_rfl) (by kernel_rfl) (fun _ _ _ h => h) (Or.inl ⟨by rfl, ?hzh2⟩) hHeld0 ?qzh2
                                  case hzh2 => (intro w hSw; (try dsimp only at hSw); go_simp <;> with_reducible rfl)
                                  try simp only [Act.put, List.setIfInBounds_toArray, List.set_cons_zero, List.set_cons_succ]
                                  refine wpAnyH_take (i := 2) (v := ?vzh3) (by simp only [List.getElem?_toArray, List.getElem?_cons_zero, List.getElem?_cons_succ]; rfl) (by kernel_rfl) (by kernel_rfl) (by kernel_rfl) (fun _ _ _ h => h) (Or.inl ⟨by rfl, ?hzh3⟩) hHeld0 ?qzh3
                                  case hzh3 => (intro w hSw; (try dsimp only at hSw); go_simp <;> with_reducible rfl)
                                  try simp only [Act.put, List.setIfInBounds_toArray, List.set_cons_zero, List.set_cons_succ]
                                  refine wpAnyH_take (i := 3) (v := ?vzh4) (by simp only [List.getElem?_toArray, List.getElem?_cons_zero, List.getElem?_cons_succ]; rfl) (by kernel_rfl) (by kernel_rfl) (by kernel_rfl) (fun _ _ _ h => h) (Or.inl ⟨by rfl, ?hzh4⟩) hHeld0 ?qzh4
                                  case hzh4 => (intro w hSw; (try dsimp only at hSw); go_simp <;> with_reducible rfl)
                                  try simp only [Act.put, List.setIfInBounds_toArray, List.set_cons_zero, List.set_cons_succ]
                                  refine wpAnyH_take (i := 4) (v := ?vzh5) (by simp only [List.getElem?_toArray, List.getElem?_cons_zero, List.getElem?_cons_succ]; rfl) (by kernel_rfl) (by kernel_rfl) (by kernel_rfl) (fun _ _ _ h => h) (Or.inl ⟨by rfl, ?hzh5⟩) hHeld0 ?qzh5
                                  case hzh5 => (intro w hSw; (try dsimp only at hSw); go_simp <;> with_reducible rfl)
                                  try simp only [Act.put, List.setIfInBounds_toArray, List.set_cons_zero, List.set_cons_succ]
                                  refine wpAnyH_take (i := 5) (v := ?vzh6) (by simp only [List.getElem?_toArray, List.getElem?_cons_zero, List.getElem?_cons_succ]; rfl) (by kernel_rfl) (by kernel_rfl) (by kernel_rfl) (fun _ _ _ h => h) (Or.inl ⟨by rfl, ?hzh6⟩) hHeld0 ?qzh6
                                  case hzh6 => (intro w hSw; (try dsimp only at hSw); go_simp <;> with_reducible rfl)
                                  try simp only [Act.put, List.setIfInBounds_toArray, List.set_cons_zero, List.set_cons_succ]
                                  refine wpAnyH_take (i := 6) (v := ?vzh7) (by simp only [List.getElem?_toArray, List.getElem?_cons_zero, List.getElem?_cons_succ]; rfl) (by kernel_rfl) (by kernel_rfl) (by kernel_rfl) (fun _ _ _ h => h) (Or.inl ⟨by rfl, ?hzh7⟩) hHeld0 ?qzh7
                                  case hzh7 => (intro w hSw; (try dsimp only at hSw); go_simp <;> with_reducible rfl)
                                  try simp only [Act.put, List.setIfInBounds_toArray, List.set_cons_zero, List.set_cons_succ]
                                  refine wpAnyH_take (i := 7) (v := ?vzh8) (by simp only [List.getElem?_toArray, List.getElem?_cons_zero, List.getElem?_cons_succ]; rfl) (by kernel_rfl) (by kernel_rfl) (by kernel_rfl) (fun _ _ _ h => h) (Or.inl ⟨by rfl, ?hzh8⟩) hHeld0 ?qzh8
                                  case hzh8 => (intro w hSw; (try dsimp only at hSw); go_simp <;> with_reducible rfl)
                                  try simp only [Act.put, List.setIfInBounds_toArray, List.set_cons_zero, List.set_cons_succ]
                                  refine wpAnyH_take (i := 8) (v := ?vzh9) (by simp only [List.getElem?_toArray, List.getElem?_cons_zero, List.getElem?_cons_succ]; rfl) (by kernel_rfl) (by kernel_rfl) (by kernel_rfl) (fun _ _ _ h => h) (Or.inl ⟨by rfl, ?hzh9⟩) hHeld0 ?qzh9
                                  case hzh9 => (intro w hSw; (try dsimp only at hSw); go_simp <;> with_reducible rfl)
                                  try simp only [Act.put, List.setIfInBounds_toArray, List.set_cons_zero, List.set_cons_succ]
                                  try rw [hbit]
                                  try simp only [hbit]
                                  refine wpAnyH_take (i := 9) (v := ?vzh10) (by simp only [List.getElem?_toArray, List.getElem?_cons_zero, List.getElem?_cons_succ]; rfl) (by kernel_rfl) (by kernel_rfl) (by kernel_rfl) (fun _ _ _ h => h) (Or.inl ⟨by rfl, ?hzh10⟩) hHeld0 ?qzh10
                                  case hzh10 => (intro w hSw; (try dsimp only at hSw); go_simp <;> with_reducible rfl)
                                  try simp only [Act.put, List.setIfInBounds_toArray, List.set_cons_zero, List.set_cons_succ]
                                  refine wpAnyH_take (i := 10) (v := ?vzh11) (by simp only [List.getElem?_toArray, List.getElem?_cons_zero, List.getElem?_cons_succ]; rfl) (by kernel_rfl) (by kernel_rfl) (by kernel_rfl) (fun _ _ _ h => h) (Or.inl ⟨by rfl, ?hzh11⟩) hHeld0 ?qzh11
                                  case hzh11 => (intro w hSw; (try dsimp only at hSw); go_simp <;> with_reducible rfl)
                                  try simp only [Act.put, List.setIfInBounds_toArray, List.set_cons_zero, List.set_cons_succ]
                                  refine wpAnyH_take (i := 11) (v := ?vzh12) (by simp only [List.getElem?_toArray, List.getElem?_cons_zero, List.getElem?_cons_succ]; rfl) (by kernel_rfl) (by kernel_rfl) (by kernel_rfl) (fun _ _ _ h => h) (Or.inl ⟨by rfl, ?hzh12⟩) hHeld0 ?qzh12
                                  case hzh12 => (intro w hSw; (try dsimp only at hSw); go_simp <;> with_reducible rfl)
                                  try simp only [Act.put, List.setIfInBounds_toArray, List.set_cons_zero, List.set_cons_succ]
                                  refine wpAnyH_take (i := 12) (v := ?vzh13) (by simp only [List.getElem?_toArray, List.getElem?_cons_zero, List.getElem?_cons_succ]; rfl) (by kernel_rfl) (by kernel_rfl) (by kernel_rfl) (fun _ _ _ h => h) (Or.inl ⟨by rfl, ?hzh13⟩) hHeld0 ?qzh13
                                  case hzh13 => (intro w hSw; (try dsimp only at hSw); go_simp <;> with_reducible rfl)
                                  try simp only [Act.put, List.setIfInBounds_toArray, List.set_cons_zero, List.set_cons_succ]
                                  refine wpAnyH_take (i := 13) (v := ?vzh14) (by simp only [List.getElem?_toArray, List.getElem?_cons_zero, List.getElem?_cons_succ]; rfl) (by kernel_rfl) (by kernel_rfl) (by kernel_rfl) (fun _ _ _ h => h) (Or.inl ⟨by rfl, ?hzh14⟩) hHeld0 ?qzh14
                                  case hzh14 => (intro w hSw; (try dsimp only at hSw); go_simp <;> with_reducible rfl)
                                  try simp only [Act.put, List.setIfInBounds_toArray, List.set_cons_zero, List.set_cons_succ]
                                  refine wpAnyH_take (i := 14) (v := ?vzh15) (by simp only [List.getElem?_toArray, List.getElem?_cons_zero, List.getElem?_cons_succ]; rfl) (by kernel_rfl) (by kernel_rfl) (by kernel_rfl) (fun _ _ _ h => h) (Or.inl ⟨by rfl, ?hzh15⟩) hHeld0 ?qzh15
                                  case hzh15 => (intro w hSw; (try dsimp only at hSw); go_simp <;> with_reducible rfl)
                                  try simp only [Act.put, List.setIfInBounds_toArray, List.set_cons_zero, List.set_cons_succ]
                                  refine wpAnyH_ready (rs := [15]) (by kernel_rfl) (by simp) ?_
                                  refine AllReadyH.cons (by simp only [List.getElem?_toArray, List.getElem?_cons_zero, List.getElem?_cons_succ]; rfl) (fun K hK => ?_) AllReadyH.nil
                                  go_simp
                                  go_at_call 12
                                  obtain ⟨wd, hwd⟩ : ∃ z, z = wr.drew := ⟨_, rfl⟩
                                  rw [← hwd]
                                  have hBd : Below wr.heap.size wr wd := by rw [hwd]; exact (Below.refl _ wr).drew
                                  clear hwd
                                  refine (accept_ok ⟨1, b, y.kd, y.c, v, y.data, Aq, cq, [], y.dst⟩ bj (s1 g).p (s1 g).o w0.heap.size (Fs2 g) wd (HACC.out.below hBd) (Nat.le_trans HB2.out.size hBd.size) (show (1 : Int) ≤ 1 by decide) (show (1 : Int) ≤ 64 by decide) (show 1 ≤ b by omega) hpb (fun y hy => (HP1.out g hgl y hy).1) ⟨rfl, (show 0 ≤ 9223372036854775807 by decide), fun hp => absurd hp (show ¬ 0 < 0 by decide)⟩ (show 0 ≤ 1000000 by decide) (fun hp => absurd hp (show ¬ 0 < 0 by decide))).mono ?_
                                  rintro r w2 ⟨rfl, A2, c2', hT⟩
                                  obtain ⟨Fs3, hA3, hF3, hK3⟩ := (HA2.out.below hBd).turn hgl (by rw [← HBJ.out]; exact hT)
                                  have p3 := pw_cell_below hBd p3
                                  have q4 := pw_cell_below hBd q4
                                  have x0 := pw_cell_below hBd x0
                                  have x1 := pw_cell_below hBd x1
                                  have x2 := pw_cell_below hBd x2
                                  have x3 := pw_cell_below hBd x3
                                  have x4 := pw_cell_below hBd x4
                                  have x5 := pw_cell_below hBd x5
                                  have hfx : ∀ q, Fs2 g q → w0.heap.size ≤ q := fun q hq => (HACC.out.2.1 q hq).1
                                  have hlt3 : (a3.add k).block < w0.heap.size := Nat.lt_of_lt_of_le (World.block_lt_of_cell? w _ HQ3.out) HB0.out.size
                                  have hXF : ¬ Fs2 g X := HX2.out.2 g hgl
                                  have p3 := hK3.cell p3 (fun hf => by have := hfx _ hf; omega)
                                  have q4 := hK3.cell q4 (fun hf => (HP2.out.off (by omega) adp rfl).2 g hgl (by rw [vadd_block] at hf; exact hf))
                                  have x0 := hK3.cell x0 hXF
                                  have x1 := hK3.cell x1 hXF
                                  have x2 := hK3.cell x2 hXF
                                  have x3 := hK3.cell x3 hXF
                                  have x4 := hK3.cell x4 hXF
                                  have x5 := hK3.cell x5 hXF
                                  have L1 := Lib.hid (HH2.out.yes hpb (y := ⟨1, b, y.kd, y.c, v, y.data, A2, c2', [], y.dst⟩) ⟨rfl, rfl, rfl, rfl⟩)
                                  have L2 := Lib.hid hA3
                                  have L3 := Lib.hid (ptrs_keep (ptrs_keep HP2.out (Keep.of_below hBd (fun _ => False)) (fun _ _ _ h => h) (fun m hm q hf => .inl hf) : Ptrs wd w0.heap.size j (some adp) bs Fs2) hK3 (fun hp a ha => (HP2.out.off hp a ha).2 g hgl) hF3)
                                  have L4 := Lib.hid (show w2.heap[X]? = some (.cells #[.int .i64 y.kd, .int .i64 y.c, .int .i64 v, .string y.data, .slice Aq 0 cq, .int .i64 y.dst] 29 (0, 0)) ∧ ∀ m, m < j → ¬ Fs3 m X from ⟨hK3.blk' (blk_below HX2.out.1 hBd) hXF, fun m hm hf => by
                                    rcases hF3 m hm X hf with h1 | h1
                                    · exact HX2.out.2 m hm h1
                                    · have := (Array.getElem?_eq_some_iff.1 HX2.out.1).1; have := hBd.size; omega⟩)
                                  have L5 := Lib.hid (show Below w0.heap.size w0 w2 from (HB2.out.trans (hBd.mono HB2.out.size)).trans (hK3.to_below (Nat.le_trans HB2.out.size hBd.size) hfx))
                                  clear hT hA3 hF3 hK3 hfx hlt3 hXF hBd
                                  refine hK.out _ _ ?szh16 (fun hHeld1 => ?qzh16)
                                  case szh16 => (try dsimp only) <;> exact ⟨p3, q4, x0, x1, x2, x3, x4, x5⟩
                                  clear hK K
                                  try simp only [Act.put, List.setIfInBounds_toArray, List.set_cons_zero, List.set_cons_succ]
                                  refine wpAnyH_take (i := 16) (v := ?vzh17) (by simp only [List.getElem?_toArray, List.getElem?_cons_zero, List.getElem?_cons_succ]; rfl) (by kernel_rfl) (by kernel_rfl) (by kernel_rfl) (fun _ _ _ h => h) (Or.inl ⟨by rfl, ?hzh17⟩) hHeld1 ?qzh17
                                  case hzh17 => (intro w hSw; (try dsimp only at hSw); go_simp <;> with_reducible rfl)
                                  try simp only [Act.put, List.setIfInBounds_toArray, List.set_cons_zero, List.set_cons_succ]
                                  refine wpAnyH_take (i := 17) (v := ?vzh18) (by simp only [List.getElem?_toArray, List.getElem?_cons_zero, List.getElem?_cons_succ]; rfl) (by kernel_rfl) (by kernel_rfl) (by kernel_rfl) (fun _ _ _ h => h) (Or.inl ⟨by rfl, ?hzh18⟩) hHeld1 ?qzh18
                                  case hzh18 => (intro w hSw; (try dsimp only at hSw); go_simp <;> with_reducible rfl)
                                  try simp only [Act.put, List.setIfInBounds_toArray, List.set_cons_zero, List.set_cons_succ]
                                  refine wpAnyH_done (by kernel_rfl) ?_ _
                                  refine NoPanic.normal ?_
                                  go_wp2_with fail
                                  exact ⟨⟨g + 1, plus R2 g, Fs3, _, by omega, by simp, by rw [cnt_plus, ← HY2.out]; push_cast; rfl, L1, L2, L3, L4, L5⟩, by simp [intOf]; omega⟩
                                · go_wp2_with fail
                                  refine wp_region_noPanic ?_
                                  refine wp_region_held_drew (S := (fun w' => w'.cell? (a3.add k) = some (.int .i64 xh) ∧ w'.cell? (adp.add g) = some (.pointer (some ⟨bj, 0, none⟩)) ∧ w'.cell? ⟨X, 0, none⟩ = some (.int .i64 y.kd) ∧ w'.cell? ⟨X, 1, none⟩ = some (.int .i64 y.c) ∧ w'.cell? ⟨X, 2, none⟩ = some (.int .i64 v) ∧ w'.cell? ⟨X, 3, none⟩ = some (.string y.data) ∧ w'.cell? ⟨X, 4, none⟩ = some (.slice Aq 0 cq) ∧ w'.cell? ⟨X, 5, none⟩ = some (.int .i64 y.dst))) (by kernel_rfl) ?zis0 (fun hHeld0 => ?zir0)
                                  case zis0 => (try dsimp only) <;> exact ⟨p3, q4, x0, x1, x2, x3, x4, x5⟩
                                  refine wpAnyH_take (i := 0) (v := ?vzi1) (by simp only [List.getElem?_toArray, List.getElem?_cons_zero, List.getElem?_cons_succ]; rfl) (by kernel_rfl) (by kernel_rfl) (by kernel_rfl) (fun _ _ _ h => h) (Or.inl ⟨by rfl, ?hzi1⟩) hHeld0 ?qzi1
                                  case hzi1 => (intro w hSw; (try dsimp only at hSw); go_simp <;> with_reducible rfl)
                                  try simp only [Act.put, List.setIfInBounds_toArray, List.set_cons_zero, List.set_cons_succ]
                                  refine wpAnyH_take (i := 1) (v := ?vzi2) (by simp only [List.getElem?_toArray, List.getElem?_cons_zero, List.getElem?_cons_succ]; rfl) (by kernel_rfl) (by kernel_rfl) (by kernel_rfl) (fun _ _ _ h => h) (Or.inl ⟨by rfl, ?hzi2⟩) hHeld0 ?qzi2
                                  case hzi2 => (intro w hSw; (try dsimp only at hSw); go_simp <;> with_reducible rfl)
                                  try simp only [Act.put, List.setIfInBounds_toArray, List.set_cons_zero, List.set_cons_succ]
                                  refine wpAnyH_take (i := 2) (v := ?vzi3) (by simp only [List.getElem?_toArray, List.getElem?_cons_zero, List.getElem?_cons_succ]; rfl) (by kernel_rfl) (by kernel_rfl) (by kernel_rfl) (fun _ _ _ h => h) (Or.inl ⟨by rfl, ?hzi3⟩) hHeld0 ?qzi3
                                  case hzi3 => (intro w hSw; (try dsimp only at hSw); go_simp <;> with_reducible rfl)
                                  try simp only [Act.put, List.setIfInBounds_toArray, List.set_cons_zero, List.set_cons_succ]
                                  refine wpAnyH_take (i := 3) (v := ?vzi4) (by simp only [List.getElem?_toArray, List.getElem?_cons_zero, List.getElem?_cons_succ]; rfl) (by kernel_rfl) (by kernel_rfl) (by kernel_rfl) (fun _ _ _ h => h) (Or.inl ⟨by rfl, ?hzi4⟩) hHeld0 ?qzi4
                                  case hzi4 => (intro w hSw; (try dsimp only at hSw); go_simp <;> with_reducible rfl)
                                  try simp only [Act.put, List.setIfInBounds_toArray, List.set_cons_zero, List.set_cons_succ]
                                  refine wpAnyH_take (i := 4) (v := ?vzi5) (by simp only [List.getElem?_toArray, List.getElem?_cons_zero, List.getElem?_cons_succ]; rfl) (by kernel_rfl) (by kernel_rfl) (by kernel_rfl) (fun _ _ _ h => h) (Or.inl ⟨by rfl, ?hzi5⟩) hHeld0 ?qzi5
                                  case hzi5 => (intro w hSw; (try dsimp only at hSw); go_simp <;> with_reducible rfl)
                                  try simp only [Act.put, List.setIfInBounds_toArray, List.set_cons_zero, List.set_cons_succ]
                                  refine wpAnyH_take (i := 5) (v := ?vzi6) (by simp only [List.getElem?_toArray, List.getElem?_cons_zero, List.getElem?_cons_succ]; rfl) (by kernel_rfl) (by kernel_rfl) (by kernel_rfl) (fun _ _ _ h => h) (Or.inl ⟨by rfl, ?hzi6⟩) hHeld0 ?qzi6
                                  case hzi6 => (intro w hSw; (try dsimp only at hSw); go_simp <;> with_reducible rfl)
                                  try simp only [Act.put, List.setIfInBounds_toArray, List.set_cons_zero, List.set_cons_succ]
                                  refine wpAnyH_take (i := 6) (v := ?vzi7) (by simp only [List.getElem?_toArray, List.getElem?_cons_zero, List.getElem?_cons_succ]; rfl) (by kernel_rfl) (by kernel_rfl) (by kernel_rfl) (fun _ _ _ h => h) (Or.inl ⟨by rfl, ?hzi7⟩) hHeld0 ?qzi7
                                  case hzi7 => (intro w hSw; (try dsimp only at hSw); go_simp <;> with_reducible rfl)
                                  try simp only [Act.put, List.setIfInBounds_toArray, List.set_cons_zero, List.set_cons_succ]
                                  refine wpAnyH_take (i := 7) (v := ?vzi8) (by simp only [List.getElem?_toArray, List.getElem?_cons_zero, List.getElem?_cons_succ]; rfl) (by kernel_rfl) (by kernel_rfl) (by kernel_rfl) (fun _ _ _ h => h) (Or.inl ⟨by rfl, ?hzi8⟩) hHeld0 ?qzi8
                                  case hzi8 => (intro w hSw; (try dsimp only at hSw); go_simp <;> with_reducible rfl)
                                  try simp only [Act.put, List.setIfInBounds_toArray, List.set_cons_zero, List.set_cons_succ]
                                  refine wpAnyH_take (i := 8) (v := ?vzi9) (by simp only [List.getElem?_toArray, List.getElem?_cons_zero, List.getElem?_cons_succ]; rfl) (by kernel_rfl) (by kernel_rfl) (by kernel_rfl) (fun _ _ _ h => h) (Or.inl ⟨by rfl, ?hzi9⟩) hHeld0 ?qzi9
                                  case hzi9 => (intro w hSw; (try dsimp only at hSw); go_simp <;> with_reducible rfl)
                                  try simp only [Act.put, List.setIfInBounds_toArray, List.set_cons_zero, List.set_cons_succ]
                                  try rw [hbit]
                                  try simp only [hbit]
                                  refine wpAnyH_take (i := 9) (v := ?vzi10) (by simp only [List.getElem?_toArray, List.getElem?_cons_zero, List.getElem?_cons_succ]; rfl) (by kernel_rfl) (by kernel_rfl) (by kernel_rfl) (fun _ _ _ h => h) (Or.inl ⟨by rfl, ?hzi10⟩) hHeld0 ?qzi10
                                  case hzi10 => (intro w hSw; (try dsimp only at hSw); go_simp <;> with_reducible rfl)
                                  try simp only [Act.put, List.setIfInBounds_toArray, List.set_cons_zero, List.set_cons_succ]
                                  refine wpAnyH_take (i := 10) (v := ?vzi11) (by simp only [List.getElem?_toArray, List.getElem?_cons_zero, List.getElem?_cons_succ]; rfl) (by kernel_rfl) (by kernel_rfl) (by kernel_rfl) (fun _ _ _ h => h) (Or.inl ⟨by rfl, ?hzi11⟩) hHeld0 ?qzi11
                                  case hzi11 => (intro w hSw; (try dsimp only at hSw); go_simp <;> with_reducible rfl)
                                  try simp only [Act.put, List.setIfInBounds_toArray, List.set_cons_zero, List.set_cons_succ]
                                  refine wpAnyH_take (i := 11) (v := ?vzi12) (by simp only [List.getElem?_toArray, List.getElem?_cons_zero, List.getElem?_cons_succ]; rfl) (by kernel_rfl) (by kernel_rfl) (by kernel_rfl) (fun _ _ _ h => h) (Or.inl ⟨by rfl, ?hzi12⟩) hHeld0 ?qzi12
                                  case hzi12 => (intro w hSw; (try dsimp only at hSw); go_simp <;> with_reducible rfl)
                                  try simp only [Act.put, List.setIfInBounds_toArray, List.set_cons_zero, List.set_cons_succ]
                                  refine wpAnyH_take (i := 12) (v := ?vzi13) (by simp only [List.getElem?_toArray, List.getElem?_cons_zero, List.getElem?_cons_succ]; rfl) (by kernel_rfl) (by kernel_rfl) (by kernel_rfl) (fun _ _ _ h => h) (Or.inl ⟨by rfl, ?hzi13⟩) hHeld0 ?qzi13
                                  case hzi13 => (intro w hSw; (try dsimp only at hSw); go_simp <;> with_reducible rfl)
                                  try simp only [Act.put, List.setIfInBounds_toArray, List.set_cons_zero, List.set_cons_succ]
                                  refine wpAnyH_take (i := 13) (v := ?vzi14) (by simp only [List.getElem?_toArray, List.getElem?_cons_zero, List.getElem?_cons_succ]; rfl) (by kernel_rfl) (by kernel_rfl) (by kernel_rfl) (fun _ _ _ h => h) (Or.inl ⟨by rfl, ?hzi14⟩) hHeld0 ?qzi14
                                  case hzi14 => (intro w hSw; (try dsimp only at hSw); go_simp <;> with_reducible rfl)
                                  try simp only [Act.put, List.setIfInBounds_toArray, List.set_cons_zero, List.set_cons_succ]
                                  refine wpAnyH_take (i := 14) (v := ?vzi15) (by simp only [List.getElem?_toArray, List.getElem?_cons_zero, List.getElem?_cons_succ]; rfl) (by kernel_rfl) (by kernel_rfl) (by kernel_rfl) (fun _ _ _ h => h) (Or.inl ⟨by rfl, ?hzi15⟩) hHeld0 ?qzi15
                                  case hzi15 => (intro w hSw; (try dsimp only at hSw); go_simp <;> with_reducible rfl)
                                  try simp only [Act.put, List.setIfInBounds_toArray, List.set_cons_zero, List.set_cons_succ]
                                  refine wpAnyH_ready (rs := [15]) (by kernel_rfl) (by simp) ?_
                                  refine AllReadyH.cons (by simp only [List.getElem?_toArray, List.getElem?_cons_zero, List.getElem?_cons_succ]; rfl) (fun K hK => ?_) AllReadyH.nil
                                  go_simp
                                  go_at_call 12
                                  obtain ⟨wd, hwd⟩ : ∃ z, z = wr.drew := ⟨_, rfl⟩
                                  rw [← hwd]
                                  have hBd : Below wr.heap.size wr wd := by rw [hwd]; exact (Below.refl _ wr).drew
                                  clear hwd
                                  have hcb : wd.cell? ⟨bj, 0, none⟩ = some (.int .i64 (s1 g).p) := by
                                    obtain ⟨_, _, m, h3, _⟩ := HACC.out.below hBd
                                    exact blk_cell h3 0
                                  refine (accept_stale bj b (s1 g).p 1 (.bool true) y.kd y.c v y.dst y.data _ wd hcb (by omega) (by omega) (by decide) (by decide)).mono ?_
                                  rintro r w2 ⟨rfl, hB9⟩
                                  have p3 := pw_cell_below hBd p3
                                  have q4 := pw_cell_below hBd q4
                                  have x0 := pw_cell_below hBd x0
                                  have x1 := pw_cell_below hBd x1
                                  have x2 := pw_cell_below hBd x2
                                  have x3 := pw_cell_below hBd x3
                                  have x4 := pw_cell_below hBd x4
                                  have x5 := pw_cell_below hBd x5
                                  have p3 := pw_cell_below hB9 p3
                                  have q4 := pw_cell_below hB9 q4
                                  have x0 := pw_cell_below hB9 x0
                                  have x1 := pw_cell_below hB9 x1
                                  have x2 := pw_cell_below hB9 x2
                                  have x3 := pw_cell_below hB9 x3
                                  have x4 := pw_cell_below hB9 x4
                                  have x5 := pw_cell_below hB9 x5
                                  have hB10 : Below wr.heap.size wr w2 := hBd.trans (hB9.mono hBd.size)
                                  have L1 := Lib.hid HH2.out.no
                                  have L2 := Lib.hid (HA2.out.below hB10)
                                  have L3 := Lib.hid (ptrs_keep HP2.out (Keep.of_below hB10 (fun _ => False)) (fun _ _ _ h => h) (fun m hm q hf => .inl hf))
                                  have L4 := Lib.hid (show w2.heap[X]? = some (.cells #[.int .i64 y.kd, .int .i64 y.c, .int .i64 v, .string y.data, .slice Aq 0 cq, .int .i64 y.dst] 29 (0, 0)) ∧ ∀ m, m < j → ¬ Fs2 m X from ⟨blk_below HX2.out.1 hB10, HX2.out.2⟩)
                                  have L5 := Lib.hid (HB2.out.trans (hB10.mono HB2.out.size))
                                  clear hB9 hB10 hBd hcb
                                  refine hK.out _ _ ?szi16 (fun hHeld1 => ?qzi16)
                                  case szi16 => (try dsimp only) <;> exact ⟨p3, q4, x0, x1, x2, x3, x4, x5⟩
                                  clear hK K
                                  try simp only [Act.put, List.setIfInBounds_toArray, List.set_cons_zero, List.set_cons_succ]
                                  refine wpAnyH_take (i := 16) (v := ?vzi17) (by simp only [List.getElem?_toArray, List.getElem?_cons_zero, List.getElem?_cons_succ]; rfl) (by kernel_rfl) (by kernel_rfl) (by kernel_rfl) (fun _ _ _ h => h) (Or.inl ⟨by rfl, ?hzi17⟩) hHeld1 ?qzi17
                                  case hzi17 => (intro w hSw; (try dsimp only at hSw); go_simp <;> with_reducible rfl)
                                  try simp only [Act.put, List.setIfInBounds_toArray, List.set_cons_zero, List.set_cons_succ]
                                  refine wpAnyH_take (i := 17) (v := ?vzi18) (by simp only [List.getElem?_toArray, List.getElem?_cons_zero, List.getElem?_cons_succ]; rfl) (by kernel_rfl) (by kernel_rfl) (by kernel_rfl) (fun _ _ _ h => h) (Or.inl ⟨by rfl, ?hzi18⟩) hHeld1 ?qzi18
                                  case hzi18 => (intro w hSw; (try dsimp only at hSw); go_simp <;> with_reducible rfl)
                                  try simp only [Act.put, List.setIfInBounds_toArray, List.set_cons_zero, List.set_cons_succ]
                                  refine wpAnyH_done (by kernel_rfl) ?_ _
                                  refine NoPanic.normal ?_
                                  go_wp2_with fail
                                  exact ⟨⟨g + 1, R2, Fs2, st2, by omega, by simp, by rw [cnt_no HBIT.out, ← HY2.out], L1, L2, L3, L4, L5⟩, by simp [intOf]; omega⟩
                              · have hbit : (bits BinOp.and IntKind.i64 (xh / 2 ^ g) 1 == 1) = false := by simpa using hbit
                                go_wp2_with fail
                                refine wp_region_noPanic ?_
                                refine wp_region_held_drew (S := (fun w' => w'.cell? (a3.add k) = some (.int .i64 xh) ∧ w'.cell? (adp.add g) = some (.pointer (some ⟨bj, 0, none⟩)) ∧ w'.cell? ⟨X, 0, none⟩ = some (.int .i64 y.kd) ∧ w'.cell? ⟨X, 1, none⟩ = some (.int .i64 y.c) ∧ w'.cell? ⟨X, 2, none⟩ = some (.int .i64 v) ∧ w'.cell? ⟨X, 3, none⟩ = some (.string y.data) ∧ w'.cell? ⟨X, 4, none⟩ = some (.slice Aq 0 cq) ∧ w'.cell? ⟨X, 5, none⟩ = some (.int .i64 y.dst))) (by kernel_rfl) ?zjs0 (fun hHeld0 => ?zjr0)
                                case zjs0 => (try dsimp only) <;> exact ⟨p3, q4, x0, x1, x2, x3, x4, x5⟩
                                refine wpAnyH_take (i := 0) (v := ?vzj1) (by simp only [List.getElem?_toArray, List.getElem?_cons_zero, List.getElem?_cons_succ]; rfl) (by kernel_rfl) (by kernel_rfl) (by kernel_rfl) (fun _ _ _ h => h) (Or.inl ⟨by rfl, ?hzj1⟩) hHeld0 ?qzj1
                                case hzj1 => (intro w hSw; (try dsimp only at hSw); go_simp <;> with_reducible rfl)
                                try simp only [Act.put, List.setIfInBounds_toArray, List.set_cons_zero, List.set_cons_succ]
                                refine wpAnyH_take (i := 1) (v := ?vzj2) (by simp only [List.getElem?_toArray, List.getElem?_cons_zero, List.getElem?_cons_succ]; rfl) (by kernel_rfl) (by kernel_rfl) (by kernel_rfl) (fun _ _ _ h => h) (Or.inl ⟨by rfl, ?hzj2⟩) hHeld0 ?qzj2
                                case hzj2 => (intro w hSw; (try dsimp only at hSw); go_simp <;> with_reducible rfl)
                                try simp only [Act.put, List.setIfInBounds_toArray, List.set_cons_zero, List.set_cons_succ]
                                refine wpAnyH_take (i := 2) (v := ?vzj3) (by simp only [List.getElem?_toArray, List.getElem?_cons_zero, List.getElem?_cons_succ]; rfl) (by kernel_rfl) (by kernel_rfl) (by kernel_rfl) (fun _ _ _ h => h) (Or.inl ⟨by rfl, ?hzj3⟩) hHeld0 ?qzj3
                                case hzj3 => (intro w hSw; (try dsimp only at hSw); go_simp <;> with_reducible rfl)
                                try simp only [Act.put, List.setIfInBounds_toArray, List.set_cons_zero, List.set_cons_succ]
                                refine wpAnyH_take (i := 3) (v := ?vzj4) (by simp only [List.getElem?_toArray, List.getElem?_cons_zero, List.getElem?_cons_succ]; rfl) (by kernel_rfl) (by kernel_rfl) (by kernel_rfl) (fun _ _ _ h => h) (Or.inl ⟨by rfl, ?hzj4⟩) hHeld0 ?qzj4
                                case hzj4 => (intro w hSw; (try dsimp only at hSw); go_simp <;> with_reducible rfl)
                                try simp only [Act.put, List.setIfInBounds_toArray, List.set_cons_zero, List.set_cons_succ]
                                refine wpAnyH_take (i := 4) (v := ?vzj5) (by simp only [List.getElem?_toArray, List.getElem?_cons_zero, List.getElem?_cons_succ]; rfl) (by kernel_rfl) (by kernel_rfl) (by kernel_rfl) (fun _ _ _ h => h) (Or.inl ⟨by rfl, ?hzj5⟩) hHeld0 ?qzj5
                                case hzj5 => (intro w hSw; (try dsimp only at hSw); go_simp <;> with_reducible rfl)
                                try simp only [Act.put, List.setIfInBounds_toArray, List.set_cons_zero, List.set_cons_succ]
                                refine wpAnyH_take (i := 5) (v := ?vzj6) (by simp only [List.getElem?_toArray, List.getElem?_cons_zero, List.getElem?_cons_succ]; rfl) (by kernel_rfl) (by kernel_rfl) (by kernel_rfl) (fun _ _ _ h => h) (Or.inl ⟨by rfl, ?hzj6⟩) hHeld0 ?qzj6
                                case hzj6 => (intro w hSw; (try dsimp only at hSw); go_simp <;> with_reducible rfl)
                                try simp only [Act.put, List.setIfInBounds_toArray, List.set_cons_zero, List.set_cons_succ]
                                refine wpAnyH_take (i := 6) (v := ?vzj7) (by simp only [List.getElem?_toArray, List.getElem?_cons_zero, List.getElem?_cons_succ]; rfl) (by kernel_rfl) (by kernel_rfl) (by kernel_rfl) (fun _ _ _ h => h) (Or.inl ⟨by rfl, ?hzj7⟩) hHeld0 ?qzj7
                                case hzj7 => (intro w hSw; (try dsimp only at hSw); go_simp <;> with_reducible rfl)
                                try simp only [Act.put, List.setIfInBounds_toArray, List.set_cons_zero, List.set_cons_succ]
                                refine wpAnyH_take (i := 7) (v := ?vzj8) (by simp only [List.getElem?_toArray, List.getElem?_cons_zero, List.getElem?_cons_succ]; rfl) (by kernel_rfl) (by kernel_rfl) (by kernel_rfl) (fun _ _ _ h => h) (Or.inl ⟨by rfl, ?hzj8⟩) hHeld0 ?qzj8
                                case hzj8 => (intro w hSw; (try dsimp only at hSw); go_simp <;> with_reducible rfl)
                                try simp only [Act.put, List.setIfInBounds_toArray, List.set_cons_zero, List.set_cons_succ]
                                refine wpAnyH_take (i := 8) (v := ?vzj9) (by simp only [List.getElem?_toArray, List.getElem?_cons_zero, List.getElem?_cons_succ]; rfl) (by kernel_rfl) (by kernel_rfl) (by kernel_rfl) (fun _ _ _ h => h) (Or.inl ⟨by rfl, ?hzj9⟩) hHeld0 ?qzj9
                                case hzj9 => (intro w hSw; (try dsimp only at hSw); go_simp <;> with_reducible rfl)
                                try simp only [Act.put, List.setIfInBounds_toArray, List.set_cons_zero, List.set_cons_succ]
                                try rw [hbit]
                                try simp only [hbit]
                                refine wpAnyH_take (i := 9) (v := undef) (by simp only [List.getElem?_toArray, List.getElem?_cons_zero, List.getElem?_cons_succ]; rfl) (by kernel_rfl) (by kernel_rfl) (by kernel_rfl) (fun _ _ _ h => h) (Or.inr ⟨by rfl, rfl⟩) hHeld0 ?qzj10
                                try simp only [Act.put, List.setIfInBounds_toArray, List.set_cons_zero, List.set_cons_succ]
                                refine wpAnyH_take (i := 10) (v := undef) (by simp only [List.getElem?_toArray, List.getElem?_cons_zero, List.getElem?_cons_succ]; rfl) (by kernel_rfl) (by kernel_rfl) (by kernel_rfl) (fun _ _ _ h => h) (Or.inr ⟨by rfl, rfl⟩) hHeld0 ?qzj11
                                try simp only [Act.put, List.setIfInBounds_toArray, List.set_cons_zero, List.set_cons_succ]
                                refine wpAnyH_take (i := 11) (v := undef) (by simp only [List.getElem?_toArray, List.getElem?_cons_zero, List.getElem?_cons_succ]; rfl) (by kernel_rfl) (by kernel_rfl) (by kernel_rfl) (fun _ _ _ h => h) (Or.inr ⟨by rfl, rfl⟩) hHeld0 ?qzj12
                                try simp only [Act.put, List.setIfInBounds_toArray, List.set_cons_zero, List.set_cons_succ]
                                refine wpAnyH_take (i := 12) (v := undef) (by simp only [List.getElem?_toArray, List.getElem?_cons_zero, List.getElem?_cons_succ]; rfl) (by kernel_rfl) (by kernel_rfl) (by kernel_rfl) (fun _ _ _ h => h) (Or.inr ⟨by rfl, rfl⟩) hHeld0 ?qzj13
                                try simp only [Act.put, List.setIfInBounds_toArray, List.set_cons_zero, List.set_cons_succ]
                                refine wpAnyH_take (i := 13) (v := undef) (by simp only [List.getElem?_toArray, List.getElem?_cons_zero, List.getElem?_cons_succ]; rfl) (by kernel_rfl) (by kernel_rfl) (by kernel_rfl) (fun _ _ _ h => h) (Or.inr ⟨by rfl, rfl⟩) hHeld0 ?qzj14
                                try simp only [Act.put, List.setIfInBounds_toArray, List.set_cons_zero, List.set_cons_succ]
                                refine wpAnyH_take (i := 14) (v := undef) (by simp only [List.getElem?_toArray, List.getElem?_cons_zero, List.getElem?_cons_succ]; rfl) (by kernel_rfl) (by kernel_rfl) (by kernel_rfl) (fun _ _ _ h => h) (Or.inr ⟨by rfl, rfl⟩) hHeld0 ?qzj15
                                try simp only [Act.put, List.setIfInBounds_toArray, List.set_cons_zero, List.set_cons_succ]
                                refine wpAnyH_take (i := 15) (v := undef) (by simp only [List.getElem?_toArray, List.getElem?_cons_zero, List.getElem?_cons_succ]; rfl) (by kernel_rfl) (by kernel_rfl) (by kernel_rfl) (fun _ _ _ h => h) (Or.inr ⟨by rfl, rfl⟩) hHeld0 ?qzj16
                                try simp only [Act.put, List.setIfInBounds_toArray, List.set_cons_zero, List.set_cons_succ]
                                refine wpAnyH_take (i := 16) (v := undef) (by simp only [List.getElem?_toArray, List.getElem?_cons_zero, List.getElem?_cons_succ]; rfl) (by kernel_rfl) (by kernel_rfl) (by kernel_rfl) (fun _ _ _ h => h) (Or.inr ⟨by rfl, rfl⟩) hHeld0 ?qzj17
                                try simp only [Act.put, List.setIfInBounds_toArray, List.set_cons_zero, List.set_cons_succ]
                                refine wpAnyH_take (i := 17) (v := ?vzj18) (by simp only [List.getElem?_toArray, List.getElem?_cons_zero, List.getElem?_cons_succ]; rfl) (by kernel_rfl) (by kernel_rfl) (by kernel_rfl) (fun _ _ _ h => h) (Or.inl ⟨by rfl, ?hzj18⟩) hHeld0 ?qzj18
                                case hzj18 => (intro w hSw; (try dsimp only at hSw); go_simp <;> with_reducible rfl)
                                try simp only [Act.put, List.setIfInBounds_toArray, List.set_cons_zero, List.set_cons_succ]
                                refine wpAnyH_done (by kernel_rfl) ?_ _
                                refine NoPanic.normal ?_
                                go_wp2_with fail
                                have hBd : Below wr.heap.size wr wr.drew := (Below.refl _ wr).drew
                                exact ⟨⟨g + 1, R2, Fs2, st2, by omega, by simp, by rw [cnt_no HBIT.out, ← HY2.out], Lib.hid HH2.out.no, Lib.hid (HA2.out.below hBd), Lib.hid (ptrs_keep HP2.out (Keep.of_below hBd (fun _ => False)) (fun _ _ _ h => h) (fun _ _ _ h => .inl h)), Lib.hid ⟨blk_below HX2.out.1 hBd, HX2.out.2⟩, Lib.hid (HB2.out.trans (hBd.mono HB2.out.size))⟩, by simp [intOf]; omega⟩
                            · obtain rfl : j = g := by omega
                              have hcg : Cho.cnt R2 j ≤ 5 := by have := Cho.cnt_le R2 j; omega
                              have hE := HEND.out R2 st2 HH2.out
                              obtain ⟨y2, hy2⟩ : ∃ y, y = Cho.cnt R2 j := ⟨_, rfl⟩
                              rw [← hy2] at hcg hE ⊢
                              clear hy2
                              have x2 := blk_cell HX2.out.1 2
                              simp only [List.getElem?_toArray, List.getElem?_cons_zero, List.getElem?_cons_succ] at x2
                              by_cases hq : j < 2 * y2
                              · have hqi : (j : Int) < 2 * (y2 : Int) := by omega
                                rw [if_pos hq] at hE
                                have HMN := Lib.hid (⟨⟨Fs2, st2, HA2.out, HH2.out.plain, hE, HP2.out⟩, HB2.out⟩ : Mid w0 wr j (k + 1) Ap bs v)
                                clear hE
                                go_wp2_with fail
                                exact ⟨⟨k + 1, _, by omega, by simp, rfl, by omega, HMN⟩, by simp [intOf]; omega⟩
                              · have hqi : ¬ (j : Int) < 2 * (y2 : Int) := by omega
                                rw [if_neg hq] at hE
                                have HMN := Lib.hid (⟨⟨Fs2, st2, HA2.out, HH2.out.plain, hE, HP2.out⟩, HB2.out⟩ : Mid w0 wr j (k + 1) Ap bs _)
                                clear hE
                                go_wp2_with fail
                                exact ⟨⟨k + 1, _, by omega, by simp, rfl, by omega, HMN⟩, by simp [intOf]; omega⟩
                        · go_wp2_with (go_at_call 20; refine HPK2.out.mono ?_; rintro r w1 ⟨Aq, cq, rfl, hB1⟩
                                       have HB1 := Lib.hid hB1
                                       clear hB1)
                          generalize hW : w1.alloc _ = W
                          have hBW : Below w1.heap.size w1 W := by rw [← hW]; exact (Below.refl _ w1).alloc (Nat.le_refl _) _
                          have hbX : W.heap[w1.heap.size]? = some (.cells #[.int .i64 y.kd, .int .i64 y.c, .int .i64 v, .string y.data, .slice Aq 0 cq, .int .i64 y.dst] 29 (0, 0)) := by rw [← hW]; exact heap_alloc_new w1 _
                          clear hW
                          have HBW := Lib.hid (show Below wp.heap.size wp W from HB1.out.trans (hBW.mono HB1.out.size))
                          obtain ⟨X, hX⟩ : ∃ X, X = w1.heap.size := ⟨_, rfl⟩
                          rw [← hX] at hbX ⊢
                          have hXs : wp.heap.size ≤ X := by rw [hX]; exact HB1.out.size
                          have HX0 := Lib.hid (show W.heap[X]? = some (.cells #[.int .i64 y.kd, .int .i64 y.c, .int .i64 v, .string y.data, .slice Aq 0 cq, .int .i64 y.dst] 29 (0, 0)) ∧ ∀ m, m < j → ¬ Fs' m X from ⟨hbX, fun m hm hf => by have := ((HAj.out.each m hm).2.1 X hf).2; omega⟩)
                          clear hbX hBW hX
                          go_loopw [15, 21] (fun yv iv wx => ∃ (g : Nat) (R2 : Nat → Bool) (Fs2 : Nat → Nat → Prop) (st2 : Nat → AcS), g ≤ j ∧ iv = .int .i64 (g : Int) ∧ yv = .int .i64 (Cho.cnt R2 g : Int) ∧ RowKit.Hid (Half j g b v R2 s1 st2) ∧ RowKit.Hid (Accs wx w0.heap.size j bs Fs2 st2) ∧ RowKit.Hid (Ptrs wx w0.heap.size j Ap bs Fs2) ∧ RowKit.Hid (wx.heap[X]? = some (.cells #[.int .i64 y.kd, .int .i64 y.c, .int .i64 v, .string y.data, .slice Aq 0 cq, .int .i64 y.dst] 29 (0, 0)) ∧ ∀ m, m < j → ¬ Fs2 m X) ∧ RowKit.Hid (Below w0.heap.size w0 wx)) (fun _ iv _ => j - (intOf iv).toNat)
                          case atStart => exact ⟨0, fun _ => false, Fs', s1, by omega, rfl, rfl, Lib.hid (Half.start HP1.out), Lib.hid (HAj.out.below HBW.out), Lib.hid (ptrs_keep HRj.out (Keep.of_below HBW.out (fun _ => False)) (fun _ _ _ h => h) (fun _ _ _ h => .inl h)), HX0, Lib.hid (HBj.out.trans (HBW.out.mono HBj.out.size))⟩
                          case round =>
                            obtain ⟨g, R2, Fs2, st2, hg, rfl, rfl, HH2, HA2, HP2, HX2, HB2⟩ := hrel
                            by_cases hgl : g < j
                            · have hgl2 : (g : Int) < (j : Int) := by omega
                              have hg0 : (0 : Int) ≤ (g : Int) := by omega
                              have p3 := pw_cell_below (HB0.out.trans (HB2.out.mono HB0.out.size)) HQ3.out
                              obtain ⟨adp, rfl, q4⟩ := HP2.out.at_ hgl
                              have hbg : R2 g = false := HH2.out.off g (Nat.le_refl _)
                              have hcg : Cho.cnt R2 g ≤ 5 := by have := Cho.cnt_le R2 g; omega
                              obtain ⟨y2, hy2⟩ : ∃ y, y = Cho.cnt R2 g := ⟨_, rfl⟩
                              rw [← hy2] at hcg ⊢
                              have HY2 := Lib.hid hy2
                              have HBIT := Lib.hid hbg
                              have hAcc := HA2.out.each g hgl
                              rw [HH2.out.same g (Nat.le_refl _)] at hAcc
                              obtain ⟨bj, hbje⟩ : ∃ bj, bj = bs.getD g 0 := ⟨_, rfl⟩
                              rw [← hbje] at hAcc q4
                              have HBJ := Lib.hid hbje
                              have HACC := Lib.hid hAcc
                              have x0 := blk_cell HX2.out.1 0
                              have x1 := blk_cell HX2.out.1 1
                              have x2 := blk_cell HX2.out.1 2
                              have x3 := blk_cell HX2.out.1 3
                              have x4 := blk_cell HX2.out.1 4
                              have x5 := blk_cell HX2.out.1 5
                              simp only [List.getElem?_toArray, List.getElem?_cons_zero, List.getElem?_cons_succ] at x0 x1 x2 x3 x4 x5
                              generalize rd lh k = xh at *
                              clear hy2 hbg hAcc hbje
                              by_cases hbit : (bits BinOp.and IntKind.i64 (xh / 2 ^ g) 1 == 1) = true
                              · by_cases hpb : (s1 g).p ≤ b
                                · go_wp2_with fail
                                  refine wp_region_noPanic ?_
                                  refine wp_region_held_drew (S := (fun w' => w'.cell? (a3.add k) = some (.int .i64 xh) ∧ w'.cell? (adp.add g) = some (.pointer (some ⟨bj, 0, none⟩)) ∧ w'.cell? ⟨X, 0, none⟩ = some (.int .i64 y.kd) ∧ w'.cell? ⟨X, 1, none⟩ = some (.int .i64 y.c) ∧ w'.cell? ⟨X, 2, none⟩ = some (.int .i64 v) ∧ w'.cell? ⟨X, 3, none⟩ = some (.string y.data) ∧ w'.cell? ⟨X, 4, none⟩ = some (.slice Aq 0 cq) ∧ w'.cell? ⟨X, 5, none⟩ = some (.int .i64 y.dst))) (by kernel_rfl) ?zks0 (fun hHeld0 => ?zkr0)
                                  case zks0 => (try dsimp only) <;> exact ⟨p3, q4, x0, x1, x2, x3, x4, x5⟩
                                  refine wpAnyH_take (i := 0) (v := ?vzk1) (by simp only [List.getElem?_toArray, List.getElem?_cons_zero, List.getElem?_cons_succ]; rfl) (by kernel_rfl) (by kernel_rfl) (by kernel_rfl) (fun _ _ _ h => h) (Or.inl ⟨by rfl, ?hzk1⟩) hHeld0 ?qzk1
                                  case hzk1 => (intro w hSw; (try dsimp only at hSw); go_simp <;> with_reducible rfl)
                                  try simp only [Act.put, List.setIfInBounds_toArray, List.set_cons_zero, List.set_cons_succ]
                                  refine wpAnyH_take (i := 1) (v := ?vzk2) (by simp only [List.getElem?_toArray, List.getElem?_cons_zero, List.getElem?_cons_succ]; rfl) (by kernel_rfl) (by kernel_rfl) (by kernel_rfl) (fun _ _ _ h => h) (Or.inl ⟨by rfl, ?hzk2⟩) hHeld0 ?qzk2
                                  case hzk2 => (intro w hSw; (try dsimp only at hSw); go_simp <;> with_reducible rfl)
                                  try simp only [Act.put, List.setIfInBounds_toArray, List.set_cons_zero, List.set_cons_succ]
                                  refine wpAnyH_take (i := 2) (v := ?vzk3) (by simp only [List.getElem?_toArray, List.getElem?_cons_zero, List.getElem?_cons_succ]; rfl) (by kernel_rfl) (by kernel_rfl) (by kernel_rfl) (fun _ _ _ h => h) (Or.inl ⟨by rfl, ?hzk3⟩) hHeld0 ?qzk3
                                  case hzk3 => (intro w hSw; (try dsimp only at hSw); go_simp <;> with_reducible rfl)
                                  try simp only [Act.put, List.setIfInBounds_toArray, List.set_cons_zero, List.set_cons_succ]
                                  refine wpAnyH_take (i := 3) (v := ?vzk4) (by simp only [List.getElem?_toArray, List.getElem?_cons_zero, List.getElem?_cons_succ]; rfl) (by kernel_rfl) (by kernel_rfl) (by kernel_rfl) (fun _ _ _ h => h) (Or.inl ⟨by rfl, ?hzk4⟩) hHeld0 ?qzk4
                                  case hzk4 => (intro w hSw; (try dsimp only at hSw); go_simp <;> with_reducible rfl)
                                  try simp only [Act.put, List.setIfInBounds_toArray, List.set_cons_zero, List.set_cons_succ]
                                  refine wpAnyH_take (i := 4) (v := ?vzk5) (by simp only [List.getElem?_toArray, List.getElem?_cons_zero, List.getElem?_cons_succ]; rfl) (by kernel_rfl) (by kernel_rfl) (by kernel_rfl) (fun _ _ _ h => h) (Or.inl ⟨by rfl, ?hzk5⟩) hHeld0 ?qzk5
                                  case hzk5 => (intro w hSw; (try dsimp only at hSw); go_simp <;> with_reducible rfl)
                                  try simp only [Act.put, List.setIfInBounds_toArray, List.set_cons_zero, List.set_cons_succ]
                                  refine wpAnyH_take (i := 5) (v := ?vzk6) (by simp only [List.getElem?_toArray, List.getElem?_cons_zero, List.getElem?_cons_succ]; rfl) (by kernel_rfl) (by kernel_rfl) (by kernel_rfl) (fun _ _ _ h => h) (Or.inl ⟨by rfl, ?hzk6⟩) hHeld0 ?qzk6
                                  case hzk6 => (intro w hSw; (try dsimp only at hSw); go_simp <;> with_reducible rfl)
                                  try simp only [Act.put, List.setIfInBounds_toArray, List.set_cons_zero, List.set_cons_succ]
                                  refine wpAnyH_take (i := 6) (v := ?vzk7) (by simp only [List.getElem?_toArray, List.getElem?_cons_zero, List.getElem?_cons_succ]; rfl) (by kernel_rfl) (by kernel_rfl) (by kernel_rfl) (fun _ _ _ h => h) (Or.inl ⟨by rfl, ?hzk7⟩) hHeld0 ?qzk7
                                  case hzk7 => (intro w hSw; (try dsimp only at hSw); go_simp <;> with_reducible rfl)
                                  try simp only [Act.put, List.setIfInBounds_toArray, List.set_cons_zero, List.set_cons_succ]
                                  refine wpAnyH_take (i := 7) (v := ?vzk8) (by simp only [List.getElem?_toArray, List.getElem?_cons_zero, List.getElem?_cons_succ]; rfl) (by kernel_rfl) (by kernel_rfl) (by kernel_rfl) (fun _ _ _ h => h) (Or.inl ⟨by rfl, ?hzk8⟩) hHeld0 ?qzk8
                                  case hzk8 => (intro w hSw; (try dsimp only at hSw); go_simp <;> with_reducible rfl)
                                  try simp only [Act.put, List.setIfInBounds_toArray, List.set_cons_zero, List.set_cons_succ]
                                  refine wpAnyH_take (i := 8) (v := ?vzk9) (by simp only [List.getElem?_toArray, List.getElem?_cons_zero, List.getElem?_cons_succ]; rfl) (by kernel_rfl) (by kernel_rfl) (by kernel_rfl) (fun _ _ _ h => h) (Or.inl ⟨by rfl, ?hzk9⟩) hHeld0 ?qzk9
                                  case hzk9 => (intro w hSw; (try dsimp only at hSw); go_simp <;> with_reducible rfl)
                                  try simp only [Act.put, List.setIfInBounds_toArray, List.set_cons_zero, List.set_cons_succ]
                                  try rw [hbit]
                                  try simp only [hbit]
                                  refine wpAnyH_take (i := 9) (v := ?vzk10) (by simp only [List.getElem?_toArray, List.getElem?_cons_zero, List.getElem?_cons_succ]; rfl) (by kernel_rfl) (by kernel_rfl) (by kernel_rfl) (fun _ _ _ h => h) (Or.inl ⟨by rfl, ?hzk10⟩) hHeld0 ?qzk10
                                  case hzk10 => (intro w hSw; (try dsimp only at hSw); go_simp <;> with_reducible rfl)
                                  try simp only [Act.put, List.setIfInBounds_toArray, List.set_cons_zero, List.set_cons_succ]
                                  refine wpAnyH_take (i := 10) (v := ?vzk11) (by simp only [List.getElem?_toArray, List.getElem?_cons_zero, List.getElem?_cons_succ]; rfl) (by kernel_rfl) (by kernel_rfl) (by kernel_rfl) (fun _ _ _ h => h) (Or.inl ⟨by rfl, ?hzk11⟩) hHeld0 ?qzk11
                                  case hzk11 => (intro w hSw; (try dsimp only at hSw); go_simp <;> with_reducible rfl)
                                  try simp only [Act.put, List.setIfInBounds_toArray, List.set_cons_zero, List.set_cons_succ]
                                  refine wpAnyH_take (i := 11) (v := ?vzk12) (by simp only [List.getElem?_toArray, List.getElem?_cons_zero, List.getElem?_cons_succ]; rfl) (by kernel_rfl) (by kernel_rfl) (by kernel_rfl) (fun _ _ _ h => h) (Or.inl ⟨by rfl, ?hzk12⟩) hHeld0 ?qzk12
                                  case hzk12 => (intro w hSw; (try dsimp only at hSw); go_simp <;> with_reducible rfl)
                                  try simp only [Act.put, List.setIfInBounds_toArray, List.set_cons_zero, List.set_cons_succ]
                                  refine wpAnyH_take (i := 12) (v := ?vzk13) (by simp only [List.getElem?_toArray, List.getElem?_cons_zero, List.getElem?_cons_succ]; rfl) (by kernel_rfl) (by kernel_rfl) (by kernel_rfl) (fun _ _ _ h => h) (Or.inl ⟨by rfl, ?hzk13⟩) hHeld0 ?qzk13
                                  case hzk13 => (intro w hSw; (try dsimp only at hSw); go_simp <;> with_reducible rfl)
                                  try simp only [Act.put, List.setIfInBounds_toArray, List.set_cons_zero, List.set_cons_succ]
                                  refine wpAnyH_take (i := 13) (v := ?vzk14) (by simp only [List.getElem?_toArray, List.getElem?_cons_zero, List.getElem?_cons_succ]; rfl) (by kernel_rfl) (by kernel_rfl) (by kernel_rfl) (fun _ _ _ h => h) (Or.inl ⟨by rfl, ?hzk14⟩) hHeld0 ?qzk14
                                  case hzk14 => (intro w hSw; (try dsimp only at hSw); go_simp <;> with_reducible rfl)
                                  try simp only [Act.put, List.setIfInBounds_toArray, List.set_cons_zero, List.set_cons_succ]
                                  refine wpAnyH_take (i := 14) (v := ?vzk15) (by simp only [List.getElem?_toArray, List.getElem?_cons_zero, List.getElem?_cons_succ]; rfl) (by kernel_rfl) (by kernel_rfl) (by kernel_rfl) (fun _ _ _ h => h) (Or.inl ⟨by rfl, ?hzk15⟩) hHeld0 ?qzk15
                                  case hzk15 => (intro w hSw; (try dsimp only at hSw); go_simp <;> with_reducible rfl)
                                  try simp only [Act.put, List.setIfInBounds_toArray, List.set_cons_zero, List.set_cons_succ]
                                  refine wpAnyH_ready (rs := [15]) (by kernel_rfl) (by simp) ?_
                                  refine AllReadyH.cons (by simp only [List.getElem?_toArray, List.getElem?_cons_zero, List.getElem?_cons_succ]; rfl) (fun K hK => ?_) AllReadyH.nil
                                  go_simp
                                  go_at_call 12
                                  obtain ⟨wd, hwd⟩ : ∃ z, z = wr.drew := ⟨_, rfl⟩
                                  rw [← hwd]
                                  have hBd : Below wr.heap.size wr wd := by rw [hwd]; exact (Below.refl _ wr).drew
                                  clear hwd
                                  refine (accept_ok ⟨1, b, y.kd, y.c, v, y.data, Aq, cq, [], y.dst⟩ bj (s1 g).p (s1 g).o w0.heap.size (Fs2 g) wd (HACC.out.below hBd) (Nat.le_trans HB2.out.size hBd.size) (show (1 : Int) ≤ 1 by decide) (show (1 : Int) ≤ 64 by decide) (show 1 ≤ b by omega) hpb (fun y hy => (HP1.out g hgl y hy).1) ⟨rfl, (show 0 ≤ 9223372036854775807 by decide), fun hp => absurd hp (show ¬ 0 < 0 by decide)⟩ (show 0 ≤ 1000000 by decide) (fun hp => absurd hp (show ¬ 0 < 0 by decide))).mono ?_
                                  rintro r w2 ⟨rfl, A2, c2', hT⟩
                                  obtain ⟨Fs3, hA3, hF3, hK3⟩ := (HA2.out.below hBd).turn hgl (by rw [← HBJ.out]; exact hT)
                                  have p3 := pw_cell_below hBd p3
                                  have q4 := pw_cell_below hBd q4
                                  have x0 := pw_cell_below hBd x0
                                  have x1 := pw_cell_below hBd x1
                                  have x2 := pw_cell_below hBd x2
                                  have x3 := pw_cell_below hBd x3
                                  have x4 := pw_cell_below hBd x4
                                  have x5 := pw_cell_below hBd x5
                                  have hfx : ∀ q, Fs2 g q → w0.heap.size ≤ q := fun q hq => (HACC.out.2.1 q hq).1
                                  have hlt3 : (a3.add k).block < w0.heap.size := Nat.lt_of_lt_of_le (World.block_lt_of_cell? w _ HQ3.out) HB0.out.size
                                  have hXF : ¬ Fs2 g X := HX2.out.2 g hgl
                                  have p3 := hK3.cell p3 (fun hf => by have := hfx _ hf; omega)
                                  have q4 := hK3.cell q4 (fun hf => (HP2.out.off (by omega) adp rfl).2 g hgl (by rw [vadd_block] at hf; exact hf))
                                  have x0 := hK3.cell x0 hXF
                                  have x1 := hK3.cell x1 hXF
                                  have x2 := hK3.cell x2 hXF
                                  have x3 := hK3.cell x3 hXF
                                  have x4 := hK3.cell x4 hXF
                                  have x5 := hK3.cell x5 hXF
                                  have L1 := Lib.hid (HH2.out.yes hpb (y := ⟨1, b, y.kd, y.c, v, y.data, A2, c2', [], y.dst⟩) ⟨rfl, rfl, rfl, rfl⟩)
                                  have L2 := Lib.hid hA3
                                  have L3 := Lib.hid (ptrs_keep (ptrs_keep HP2.out (Keep.of_below hBd (fun _ => False)) (fun _ _ _ h => h) (fun m hm q hf => .inl hf) : Ptrs wd w0.heap.size j (some adp) bs Fs2) hK3 (fun hp a ha => (HP2.out.off hp a ha).2 g hgl) hF3)
                                  have L4 := Lib.hid (show w2.heap[X]? = some (.cells #[.int .i64 y.kd, .int .i64 y.c, .int .i64 v, .string y.data, .slice Aq 0 cq, .int .i64 y.dst] 29 (0, 0)) ∧ ∀ m, m < j → ¬ Fs3 m X from ⟨hK3.blk' (blk_below HX2.out.1 hBd) hXF, fun m hm hf => by
                                    rcases hF3 m hm X hf with h1 | h1
                                    · exact HX2.out.2 m hm h1
                                    · have := (Array.getElem?_eq_some_iff.1 HX2.out.1).1; have := hBd.size; omega⟩)
                                  have L5 := Lib.hid (show Below w0.heap.size w0 w2 from (HB2.out.trans (hBd.mono HB2.out.size)).trans (hK3.to_below (Nat.le_trans HB2.out.size hBd.size) hfx))
                                  clear hT hA3 hF3 hK3 hfx hlt3 hXF hBd
                                  refine hK.out _ _ ?szk16 (fun hHeld1 => ?qzk16)
                                  case szk16 => (try dsimp only) <;> exact ⟨p3, q4, x0, x1, x2, x3, x4, x5⟩
                                  clear hK K
                                  try simp only [Act.put, List.setIfInBounds_toArray, List.set_cons_zero, List.set_cons_succ]
                                  refine wpAnyH_take (i := 16) (v := ?vzk17) (by simp only [List.getElem?_toArray, List.getElem?_cons_zero, List.getElem?_cons_succ]; rfl) (by kernel_rfl) (by kernel_rfl) (by kernel_rfl) (fun _ _ _ h => h) (Or.inl ⟨by rfl, ?hzk17⟩) hHeld1 ?qzk17
                                  case hzk17 => (intro w hSw; (try dsimp only at hSw); go_simp <;> with_reducible rfl)
                                  try simp only [Act.put, List.setIfInBounds_toArray, List.set_cons_zero, List.set_cons_succ]
                                  refine wpAnyH_take (i := 17) (v := ?vzk18) (by simp only [List.getElem?_toArray, List.getElem?_cons_zero, List.getElem?_cons_succ]; rfl) (by kernel_rfl) (by kernel_rfl) (by kernel_rfl) (fun _ _ _ h => h) (Or.inl ⟨by rfl, ?hzk18⟩) hHeld1 ?qzk18
                                  case hzk18 => (intro w hSw; (try dsimp only at hSw); go_simp <;> with_reducible rfl)
                                  try simp only [Act.put, List.setIfInBounds_toArray, List.set_cons_zero, List.set_cons_succ]
                                  refine wpAnyH_done (by kernel_rfl) ?_ _
                                  refine NoPanic.normal ?_
                                  go_wp2_with fail
                                  exact ⟨⟨g + 1, plus R2 g, Fs3, _, by omega, by simp, by rw [cnt_plus, ← HY2.out]; push_cast; rfl, L1, L2, L3, L4, L5⟩, by simp [intOf]; omega⟩
                                · go_wp2_with fail
                                  refine wp_region_noPanic ?_
                                  refine wp_region_held_drew (S := (fun w' => w'.cell? (a3.add k) = some (.int .i64 xh) ∧ w'.cell? (adp.add g) = some (.pointer (some ⟨bj, 0, none⟩)) ∧ w'.cell? ⟨X, 0, none⟩ = some (.int .i64 y.kd) ∧ w'.cell? ⟨X, 1, none⟩ = some (.int .i64 y.c) ∧ w'.cell? ⟨X, 2, none⟩ = some (.int .i64 v) ∧ w'.cell? ⟨X, 3, none⟩ = some (.string y.data) ∧ w'.cell? ⟨X, 4, none⟩ = some (.slice Aq 0 cq) ∧ w'.cell? ⟨X, 5, none⟩ = some (.int .i64 y.dst))) (by kernel_rfl) ?zls0 (fun hHeld0 => ?zlr0)
                                  case zls0 => (try dsimp only) <;> exact ⟨p3, q4, x0, x1, x2, x3, x4, x5⟩
                                  refine wpAnyH_take (i := 0) (v := ?vzl1) (by simp only [List.getElem?_toArray, List.getElem?_cons_zero, List.getElem?_cons_succ]; rfl) (by kernel_rfl) (by kernel_rfl) (by kernel_rfl) (fun _ _ _ h => h) (Or.inl ⟨by rfl, ?hzl1⟩) hHeld0 ?qzl1
                                  case hzl1 => (intro w hSw; (try dsimp only at hSw); go_simp <;> with_reducible rfl)
                                  try simp only [Act.put, List.setIfInBounds_toArray, List.set_cons_zero, List.set_cons_succ]
                                  refine wpAnyH_take (i := 1) (v := ?vzl2) (by simp only [List.getElem?_toArray, List.getElem?_cons_zero, List.getElem?_cons_succ]; rfl) (by kernel_rfl) (by kernel_rfl) (by kernel_rfl) (fun _ _ _ h => h) (Or.inl ⟨by rfl, ?hzl2⟩) hHeld0 ?qzl2
                                  case hzl2 => (intro w hSw; (try dsimp only at hSw); go_simp <;> with_reducible rfl)
                                  try simp only [Act.put, List.setIfInBounds_toArray, List.set_cons_zero, List.set_cons_succ]
                                  refine wpAnyH_take (i := 2) (v := ?vzl3) (by simp only [List.getElem?_toArray, List.getElem?_cons_zero, List.getElem?_cons_succ]; rfl) (by kernel_rfl) (by kernel_rfl) (by kernel_rfl) (fun _ _ _ h => h) (Or.inl ⟨by rfl, ?hzl3⟩) hHeld0 ?qzl3
                                  case hzl3 => (intro w hSw; (try dsimp only at hSw); go_simp <;> with_reducible rfl)
                                  try simp only [Act.put, List.setIfInBounds_toArray, List.set_cons_zero, List.set_cons_succ]
                                  refine wpAnyH_take (i := 3) (v := ?vzl4) (by simp only [List.getElem?_toArray, List.getElem?_cons_zero, List.getElem?_cons_succ]; rfl) (by kernel_rfl) (by kernel_rfl) (by kernel_rfl) (fun _ _ _ h => h) (Or.inl ⟨by rfl, ?hzl4⟩) hHeld0 ?qzl4
                                  case hzl4 => (intro w hSw; (try dsimp only at hSw); go_simp <;> with_reducible rfl)
                                  try simp only [Act.put, List.setIfInBounds_toArray, List.set_cons_zero, List.set_cons_succ]
                                  refine wpAnyH_take (i := 4) (v := ?vzl5) (by simp only [List.getElem?_toArray, List.getElem?_cons_zero, List.getElem?_cons_succ]; rfl) (by kernel_rfl) (by kernel_rfl) (by kernel_rfl) (fun _ _ _ h => h) (Or.inl ⟨by rfl, ?hzl5⟩) hHeld0 ?qzl5
                                  case hzl5 => (intro w hSw; (try dsimp only at hSw); go_simp <;> with_reducible rfl)
                                  try simp only [Act.put, List.setIfInBounds_toArray, List.set_cons_zero, List.set_cons_succ]
                                  refine wpAnyH_take (i := 5) (v := ?vzl6) (by simp only [List.getElem?_toArray, List.getElem?_cons_zero, List.getElem?_cons_succ]; rfl) (by kernel_rfl) (by kernel_rfl) (by kernel_rfl) (fun _ _ _ h => h) (Or.inl ⟨by rfl, ?hzl6⟩) hHeld0 ?qzl6
                                  case hzl6 => (intro w hSw; (try dsimp only at hSw); go_simp <;> with_reducible rfl)
                                  try simp only [Act.put, List.setIfInBounds_toArray, List.set_cons_zero, List.set_cons_succ]
                                  refine wpAnyH_take (i := 6) (v := ?vzl7) (by simp only [List.getElem?_toArray, List.getElem?_cons_zero, List.getElem?_cons_succ]; rfl) (by kernel_rfl) (by kernel_rfl) (by kernel_rfl) (fun _ _ _ h => h) (Or.inl ⟨by rfl, ?hzl7⟩) hHeld0 ?qzl7
                                  case hzl7 => (intro w hSw; (try dsimp only at hSw); go_simp <;> with_reducible rfl)
                                  try simp only [Act.put, List.setIfInBounds_toArray, List.set_cons_zero, List.set_cons_succ]
                                  refine wpAnyH_take (i := 7) (v := ?vzl8) (by simp only [List.getElem?_toArray, List.getElem?_cons_zero, List.getElem?_cons_succ]; rfl) (by kernel_rfl) (by kernel_rfl) (by kernel_rfl) (fun _ _ _ h => h) (Or.inl ⟨by rfl, ?hzl8⟩) hHeld0 ?qzl8
                                  case hzl8 => (intro w hSw; (try dsimp only at hSw); go_simp <;> with_reducible rfl)
                                  try simp only [Act.put, List.setIfInBounds_toArray, List.set_cons_zero, List.set_cons_succ]
                                  refine wpAnyH_take (i := 8) (v := ?vzl9) (by simp only [List.getElem?_toArray, List.getElem?_cons_zero, List.getElem?_cons_succ]; rfl) (by kernel_rfl) (by kernel_rfl) (by kernel_rfl) (fun _ _ _ h => h) (Or.inl ⟨by rfl, ?hzl9⟩) hHeld0 ?qzl9
                                  case hzl9 => (intro w hSw; (try dsimp only at hSw); go_simp <;> with_reducible rfl)
                                  try simp only [Act.put, List.setIfInBounds_toArray, List.set_cons_zero, List.set_cons_succ]
                                  try rw [hbit]
                                  try simp only [hbit]
                                  refine wpAnyH_take (i := 9) (v := ?vzl10) (by simp only [List.getElem?_toArray, List.getElem?_cons_zero, List.getElem?_cons_succ]; rfl) (by kernel_rfl) (by kernel_rfl) (by kernel_rfl) (fun _ _ _ h => h) (Or.inl ⟨by rfl, ?hzl10⟩) hHeld0 ?qzl10
                                  case hzl10 => (intro w hSw; (try dsimp only at hSw); go_simp <;> with_reducible rfl)
                                  try simp only [Act.put, List.setIfInBounds_toArray, List.set_cons_zero, List.set_cons_succ]
                                  refine wpAnyH_take (i := 10) (v := ?vzl11) (by simp only [List.getElem?_toArray, List.getElem?_cons_zero, List.getElem?_cons_succ]; rfl) (by kernel_rfl) (by kernel_rfl) (by kernel_rfl) (fun _ _ _ h => h) (Or.inl ⟨by rfl, ?hzl11⟩) hHeld0 ?qzl11
                                  case hzl11 => (intro w hSw; (try dsimp only at hSw); go_simp <;> with_reducible rfl)
                                  try simp only [Act.put, List.setIfInBounds_toArray, List.set_cons_zero, List.set_cons_succ]
                                  refine wpAnyH_take (i := 11) (v := ?vzl12) (by simp only [List.getElem?_toArray, List.getElem?_cons_zero, List.getElem?_cons_succ]; rfl) (by kernel_rfl) (by kernel_rfl) (by kernel_rfl) (fun _ _ _ h => h) (Or.inl ⟨by rfl, ?hzl12⟩) hHeld0 ?qzl12
                                  case hzl12 => (intro w hSw; (try dsimp only at hSw); go_simp <;> with_reducible rfl)
                                  try simp only [Act.put, List.setIfInBounds_toArray, List.set_cons_zero, List.set_cons_succ]
                                  refine wpAnyH_take (i := 12) (v := ?vzl13) (by simp only [List.getElem?_toArray, List.getElem?_cons_zero, List.getElem?_cons_succ]; rfl) (by kernel_rfl) (by kernel_rfl) (by kernel_rfl) (fun _ _ _ h => h) (Or.inl ⟨by rfl, ?hzl13⟩) hHeld0 ?qzl13
                                  case hzl13 => (intro w hSw; (try dsimp only at hSw); go_simp <;> with_reducible rfl)
                                  try simp only [Act.put, List.setIfInBounds_toArray, List.set_cons_zero, List.set_cons_succ]
                                  refine wpAnyH_take (i := 13) (v := ?vzl14) (by simp only [List.getElem?_toArray, List.getElem?_cons_zero, List.getElem?_cons_succ]; rfl) (by kernel_rfl) (by kernel_rfl) (by kernel_rfl) (fun _ _ _ h => h) (Or.inl ⟨by rfl, ?hzl14⟩) hHeld0 ?qzl14
                                  case hzl14 => (intro w hSw; (try dsimp only at hSw); go_simp <;> with_reducible rfl)
                                  try simp only [Act.put, List.setIfInBounds_toArray, List.set_cons_zero, List.set_cons_succ]
                                  refine wpAnyH_take (i := 14) (v := ?vzl15) (by simp only [List.getElem?_toArray, List.getElem?_cons_zero, List.getElem?_cons_succ]; rfl) (by kernel_rfl) (by kernel_rfl) (by kernel_rfl) (fun _ _ _ h => h) (Or.inl ⟨by rfl, ?hzl15⟩) hHeld0 ?qzl15
                                  case hzl15 => (intro w hSw; (try dsimp only at hSw); go_simp <;> with_reducible rfl)
                                  try simp only [Act.put, List.setIfInBounds_toArray, List.set_cons_zero, List.set_cons_succ]
                                  refine wpAnyH_ready (rs := [15]) (by kernel_rfl) (by simp) ?_
                                  refine AllReadyH.cons (by simp only [List.getElem?_toArray, List.getElem?_cons_zero, List.getElem?_cons_succ]; rfl) (fun K hK => ?_) AllReadyH.nil
                                  go_simp
                                  go_at_call 12
                                  obtain ⟨wd, hwd⟩ : ∃ z, z = wr.drew := ⟨_, rfl⟩
                                  rw [← hwd]
                                  have hBd : Below wr.heap.size wr wd := by rw [hwd]; exact (Below.refl _ wr).drew
                                  clear hwd
                                  have hcb : wd.cell? ⟨bj, 0, none⟩ = some (.int .i64 (s1 g).p) := by
                                    obtain ⟨_, _, m, h3, _⟩ := HACC.out.below hBd
                                    exact blk_cell h3 0
                                  refine (accept_stale bj b (s1 g).p 1 (.bool true) y.kd y.c v y.dst y.data _ wd hcb (by omega) (by omega) (by decide) (by decide)).mono ?_
                                  rintro r w2 ⟨rfl, hB9⟩
                                  have p3 := pw_cell_below hBd p3
                                  have q4 := pw_cell_below hBd q4
                                  have x0 := pw_cell_below hBd x0
                                  have x1 := pw_cell_below hBd x1
                                  have x2 := pw_cell_below hBd x2
                                  have x3 := pw_cell_below hBd x3
                                  have x4 := pw_cell_below hBd x4
                                  have x5 := pw_cell_below hBd x5
                                  have p3 := pw_cell_below hB9 p3
                                  have q4 := pw_cell_below hB9 q4
                                  have x0 := pw_cell_below hB9 x0
                                  have x1 := pw_cell_below hB9 x1
                                  have x2 := pw_cell_below hB9 x2
                                  have x3 := pw_cell_below hB9 x3
                                  have x4 := pw_cell_below hB9 x4
                                  have x5 := pw_cell_below hB9 x5
                                  have hB10 : Below wr.heap.size wr w2 := hBd.trans (hB9.mono hBd.size)
                                  have L1 := Lib.hid HH2.out.no
                                  have L2 := Lib.hid (HA2.out.below hB10)
                                  have L3 := Lib.hid (ptrs_keep HP2.out (Keep.of_below hB10 (fun _ => False)) (fun _ _ _ h => h) (fun m hm q hf => .inl hf))
                                  have L4 := Lib.hid (show w2.heap[X]? = some (.cells #[.int .i64 y.kd, .int .i64 y.c, .int .i64 v, .string y.data, .slice Aq 0 cq, .int .i64 y.dst] 29 (0, 0)) ∧ ∀ m, m < j → ¬ Fs2 m X from ⟨blk_below HX2.out.1 hB10, HX2.out.2⟩)
                                  have L5 := Lib.hid (HB2.out.trans (hB10.mono HB2.out.size))
                                  clear hB9 hB10 hBd hcb
                                  refine hK.out _ _ ?szl16 (fun hHeld1 => ?qzl16)
                                  case szl16 => (try dsimp only) <;> exact ⟨p3, q4, x0, x1, x2, x3, x4, x5⟩
                                  clear hK K
                                  try simp only [Act.put, List.setIfInBounds_toArray, List.set_cons_zero, List.set_cons_succ]
                                  refine wpAnyH_take (i := 16) (v := ?vzl17) (by simp only [List.getElem?_toArray, List.getElem?_cons_zero, List.getElem?_cons_succ]; rfl) (by kernel_rfl) (by kernel_rfl) (by kernel_rfl) (fun _ _ _ h => h) (Or.inl ⟨by rfl, ?hzl17⟩) hHeld1 ?qzl17
                                  case hzl17 => (intro w hSw; (try dsimp only at hSw); go_simp <;> with_reducible rfl)
                                  try simp only [Act.put, List.setIfInBounds_toArray, List.set_cons_zero, List.set_cons_succ]
                                  refine wpAnyH_take (i := 17) (v := ?vzl18) (by simp only [List.getElem?_toArray, List.getElem?_cons_zero, List.getElem?_cons_succ]; rfl) (by kernel_rfl) (by kernel_rfl) (by kernel_rfl) (fun _ _ _ h => h) (Or.inl ⟨by rfl, ?hzl18⟩) hHeld1 ?qzl18
                                  case hzl18 => (intro w hSw; (try dsimp only at hSw); go_simp <;> with_reducible rfl)
                                  try simp only [Act.put, List.setIfInBounds_toArray, List.set_cons_zero, List.set_cons_succ]
                                  refine wpAnyH_done (by kernel_rfl) ?_ _
                                  refine NoPanic.normal ?_
                                  go_wp2_with fail
                                  exact ⟨⟨g + 1, R2, Fs2, st2, by omega, by simp, by rw [cnt_no HBIT.out, ← HY2.out], L1, L2, L3, L4, L5⟩, by simp [intOf]; omega⟩
                              · have hbit : (bits BinOp.and IntKind.i64 (xh / 2 ^ g) 1 == 1) = false := by simpa using hbit
                                go_wp2_with fail
                                refine wp_region_noPanic ?_
                                refine wp_region_held_drew (S := (fun w' => w'.cell? (a3.add k) = some (.int .i64 xh) ∧ w'.cell? (adp.add g) = some (.pointer (some ⟨bj, 0, none⟩)) ∧ w'.cell? ⟨X, 0, none⟩ = some (.int .i64 y.kd) ∧ w'.cell? ⟨X, 1, none⟩ = some (.int .i64 y.c) ∧ w'.cell? ⟨X, 2, none⟩ = some (.int .i64 v) ∧ w'.cell? ⟨X, 3, none⟩ = some (.string y.data) ∧ w'.cell? ⟨X, 4, none⟩ = some (.slice Aq 0 cq) ∧ w'.cell? ⟨X, 5, none⟩ = some (.int .i64 y.dst))) (by kernel_rfl) ?zms0 (fun hHeld0 => ?zmr0)
                                case zms0 => (try dsimp only) <;> exact ⟨p3, q4, x0, x1, x2, x3, x4, x5⟩
                                refine wpAnyH_take (i := 0) (v := ?vzm1) (by simp only [List.getElem?_toArray, List.getElem?_cons_zero, List.getElem?_cons_succ]; rfl) (by kernel_rfl) (by kernel_rfl) (by kernel_rfl) (fun _ _ _ h => h) (Or.inl ⟨by rfl, ?hzm1⟩) hHeld0 ?qzm1
                                case hzm1 => (intro w hSw; (try dsimp only at hSw); go_simp <;> with_reducible rfl)
                                try simp only [Act.put, List.setIfInBounds_toArray, List.set_cons_zero, List.set_cons_succ]
                                refine wpAnyH_take (i := 1) (v := ?vzm2) (by simp only [List.getElem?_toArray, List.getElem?_cons_zero, List.getElem?_cons_succ]; rfl) (by kernel_rfl) (by kernel_rfl) (by kernel_rfl) (fun _ _ _ h => h) (Or.inl ⟨by rfl, ?hzm2⟩) hHeld0 ?qzm2
                                case hzm2 => (intro w hSw; (try dsimp only at hSw); go_simp <;> with_reducible rfl)
                                try simp only [Act.put, List.setIfInBounds_toArray, List.set_cons_zero, List.set_cons_succ]
                                refine wpAnyH_take (i := 2) (v := ?vzm3) (by simp only [List.getElem?_toArray, List.getElem?_cons_zero, List.getElem?_cons_succ]; rfl) (by kernel_rfl) (by kernel_rfl) (by kernel_rfl) (fun _ _ _ h => h) (Or.inl ⟨by rfl, ?hzm3⟩) hHeld0 ?qzm3
                                case hzm3 => (intro w hSw; (try dsimp only at hSw); go_simp <;> with_reducible rfl)
                                try simp only [Act.put, List.setIfInBounds_toArray, List.set_cons_zero, List.set_cons_succ]
                                refine wpAnyH_take (i := 3) (v := ?vzm4) (by simp only [List.getElem?_toArray, List.getElem?_cons_zero, List.getElem?_cons_succ]; rfl) (by kernel_rfl) (by kernel_rfl) (by kernel_rfl) (fun _ _ _ h => h) (Or.inl ⟨by rfl, ?hzm4⟩) hHeld0 ?qzm4
                                case hzm4 => (intro w hSw; (try dsimp only at hSw); go_simp <;> with_reducible rfl)
                                try simp only [Act.put, List.setIfInBounds_toArray, List.set_cons_zero, List.set_cons_succ]
                                refine wpAnyH_take (i := 4) (v := ?vzm5) (by simp only [List.getElem?_toArray, List.getElem?_cons_zero, List.getElem?_cons_succ]; rfl) (by kernel_rfl) (by kernel_rfl) (by kernel_rfl) (fun _ _ _ h => h) (Or.inl ⟨by rfl, ?hzm5⟩) hHeld0 ?qzm5
                                case hzm5 => (intro w hSw; (try dsimp only at hSw); go_simp <;> with_reducible rfl)
                                try simp only [Act.put, List.setIfInBounds_toArray, List.set_cons_zero, List.set_cons_succ]
                                refine wpAnyH_take (i := 5) (v := ?vzm6) (by simp only [List.getElem?_toArray, List.getElem?_cons_zero, List.getElem?_cons_succ]; rfl) (by kernel_rfl) (by kernel_rfl) (by kernel_rfl) (fun _ _ _ h => h) (Or.inl ⟨by rfl, ?hzm6⟩) hHeld0 ?qzm6
                                case hzm6 => (intro w hSw; (try dsimp only at hSw); go_simp <;> with_reducible rfl)
                                try simp only [Act.put, List.setIfInBounds_toArray, List.set_cons_zero, List.set_cons_succ]
                                refine wpAnyH_take (i := 6) (v := ?vzm7) (by simp only [List.getElem?_toArray, List.getElem?_cons_zero, List.getElem?_cons_succ]; rfl) (by kernel_rfl) (by kernel_rfl) (by kernel_rfl) (fun _ _ _ h => h) (Or.inl ⟨by rfl, ?hzm7⟩) hHeld0 ?qzm7
                                case hzm7 => (intro w hSw; (try dsimp only at hSw); go_simp <;> with_reducible rfl)
                                try simp only [Act.put, List.setIfInBounds_toArray, List.set_cons_zero, List.set_cons_succ]
                                refine wpAnyH_take (i := 7) (v := ?vzm8) (by simp only [List.getElem?_toArray, List.getElem?_cons_zero, List.getElem?_cons_succ]; rfl) (by kernel_rfl) (by kernel_rfl) (by kernel_rfl) (fun _ _ _ h => h) (Or.inl ⟨by rfl, ?hzm8⟩) hHeld0 ?qzm8
                                case hzm8 => (intro w hSw; (try dsimp only at hSw); go_simp <;> with_reducible rfl)
                                try simp only [Act.put, List.setIfInBounds_toArray, List.set_cons_zero, List.set_cons_succ]
                                refine wpAnyH_take (i := 8) (v := ?vzm9) (by simp only [List.getElem?_toArray, List.getElem?_cons_zero, List.getElem?_cons_succ]; rfl) (by kernel_rfl) (by kernel_rfl) (by kernel_rfl) (fun _ _ _ h => h) (Or.inl ⟨by rfl, ?hzm9⟩) hHeld0 ?qzm9
                                case hzm9 => (intro w hSw; (try dsimp only at hSw); go_simp <;> with_reducible rfl)
                                try simp only [Act.put, List.setIfInBounds_toArray, List.set_cons_zero, List.set_cons_succ]
                                try rw [hbit]
                                try simp only [hbit]
                                refine wpAnyH_take (i := 9) (v := undef) (by simp only [List.getElem?_toArray, List.getElem?_cons_zero, List.getElem?_cons_succ]; rfl) (by kernel_rfl) (by kernel_rfl) (by kernel_rfl) (fun _ _ _ h => h) (Or.inr ⟨by rfl, rfl⟩) hHeld0 ?qzm10
                                try simp only [Act.put, List.setIfInBounds_toArray, List.set_cons_zero, List.set_cons_succ]
                                refine wpAnyH_take (i := 10) (v := undef) (by simp only [List.getElem?_toArray, List.getElem?_cons_zero, List.getElem?_cons_succ]; rfl) (by kernel_rfl) (by kernel_rfl) (by kernel_rfl) (fun _ _ _ h => h) (Or.inr ⟨by rfl, rfl⟩) hHeld0 ?qzm11
                                try simp only [Act.put, List.setIfInBounds_toArray, List.set_cons_zero, List.set_cons_succ]
                                refine wpAnyH_take (i := 11) (v := undef) (by simp only [List.getElem?_toArray, List.getElem?_cons_zero, List.getElem?_cons_succ]; rfl) (by kernel_rfl) (by kernel_rfl) (by kernel_rfl) (fun _ _ _ h => h) (Or.inr ⟨by rfl, rfl⟩) hHeld0 ?qzm12
                                try simp only [Act.put, List.setIfInBounds_toArray, List.set_cons_zero, List.set_cons_succ]
                                refine wpAnyH_take (i := 12) (v := undef) (by simp only [List.getElem?_toArray, List.getElem?_cons_zero, List.getElem?_cons_succ]; rfl) (by kernel_rfl) (by kernel_rfl) (by kernel_rfl) (fun _ _ _ h => h) (Or.inr ⟨by rfl, rfl⟩) hHeld0 ?qzm13
                                try simp only [Act.put, List.setIfInBounds_toArray, List.set_cons_zero, List.set_cons_succ]
                                refine wpAnyH_take (i := 13) (v := undef) (by simp only [List.getElem?_toArray, List.getElem?_cons_zero, List.getElem?_cons_succ]; rfl) (by kernel_rfl) (by kernel_rfl) (by kernel_rfl) (fun _ _ _ h => h) (Or.inr ⟨by rfl, rfl⟩) hHeld0 ?qzm14
                                try simp only [Act.put, List.setIfInBounds_toArray, List.set_cons_zero, List.set_cons_succ]
                                refine wpAnyH_take (i := 14) (v := undef) (by simp only [List.getElem?_toArray, List.getElem?_cons_zero, List.getElem?_cons_succ]; rfl) (by kernel_rfl) (by kernel_rfl) (by kernel_rfl) (fun _ _ _ h => h) (Or.inr ⟨by rfl, rfl⟩) hHeld0 ?qzm15
                                try simp only [Act.put, List.setIfInBounds_toArray, List.set_cons_zero, List.set_cons_succ]
                                refine wpAnyH_take (i := 15) (v := undef) (by simp only [List.getElem?_toArray, List.getElem?_cons_zero, List.getElem?_cons_succ]; rfl) (by kernel_rfl) (by kernel_rfl) (by kernel_rfl) (fun _ _ _ h => h) (Or.inr ⟨by rfl, rfl⟩) hHeld0 ?qzm16
                                try simp only [Act.put, List.setIfInBounds_toArray, List.set_cons_zero, List.set_cons_succ]
                                refine wpAnyH_take (i := 16) (v := undef) (by simp only [List.getElem?_toArray, List.getElem?_cons_zero, List.getElem?_cons_succ]; rfl) (by kernel_rfl) (by kernel_rfl) (by kernel_rfl) (fun _ _ _ h => h) (Or.inr ⟨by rfl, rfl⟩) hHeld0 ?qzm17
                                try simp only [Act.put, List.setIfInBounds_toArray, List.set_cons_zero, List.set_cons_succ]
                                refine wpAnyH_take (i := 17) (v := ?vzm18) (by simp only [List.getElem?_toArray, List.getElem?_cons_zero, List.getElem?_cons_succ]; rfl) (by kernel_rfl) (by kernel_rfl) (by kernel_rfl) (fun _ _ _ h => h) (Or.inl ⟨by rfl, ?hzm18⟩) hHeld0 ?qzm18
                                case hzm18 => (intro w hSw; (try dsimp only at hSw); go_simp <;> with_reducible rfl)
                                try simp only [Act.put, List.setIfInBounds_toArray, List.set_cons_zero, List.set_cons_succ]
                                refine wpAnyH_done (by kernel_rfl) ?_ _
                                refine NoPanic.normal ?_
                                go_wp2_with fail
                                have hBd : Below wr.heap.size wr wr.drew := (Below.refl _ wr).drew
                                exact ⟨⟨g + 1, R2, Fs2, st2, by omega, by simp, by rw [cnt_no HBIT.out, ← HY2.out], Lib.hid HH2.out.no, Lib.hid (HA2.out.below hBd), Lib.hid (ptrs_keep HP2.out (Keep.of_below hBd (fun _ => False)) (fun _ _ _ h => h) (fun _ _ _ h => .inl h)), Lib.hid ⟨blk_below HX2.out.1 hBd, HX2.out.2⟩, Lib.hid (HB2.out.trans (hBd.mono HB2.out.size))⟩, by simp [intOf]; omega⟩
                            · obtain rfl : j = g := by omega
                              have hcg : Cho.cnt R2 j ≤ 5 := by have := Cho.cnt_le R2 j; omega
                              have hE := HEND.out R2 st2 HH2.out
                              obtain ⟨y2, hy2⟩ : ∃ y, y = Cho.cnt R2 j := ⟨_, rfl⟩
                              rw [← hy2] at hcg hE ⊢
                              clear hy2
                              have x2 := blk_cell HX2.out.1 2
                              simp only [List.getElem?_toArray, List.getElem?_cons_zero, List.getElem?_cons_succ] at x2
                              by_cases hq : j < 2 * y2
                              · have hqi : (j : Int) < 2 * (y2 : Int) := by omega
                                rw [if_pos hq] at hE
                                have HMN := Lib.hid (⟨⟨Fs2, st2, HA2.out, HH2.out.plain, hE, HP2.out⟩, HB2.out⟩ : Mid w0 wr j (k + 1) Ap bs v)
                                clear hE
                                go_wp2_with fail
                                exact ⟨⟨k + 1, _, by omega, by simp, rfl, by omega, HMN⟩, by simp [intOf]; omega⟩
                              · have hqi : ¬ (j : Int) < 2 * (y2 : Int) := by omega
                                rw [if_neg hq] at hE
                                have HMN := Lib.hid (⟨⟨Fs2, st2, HA2.out, HH2.out.plain, hE, HP2.out⟩, HB2.out⟩ : Mid w0 wr j (k + 1) Ap bs _)
                                clear hE
                                go_wp2_with fail
                                exact ⟨⟨k + 1, _, by omega, by simp, rfl, by omega, HMN⟩, by simp [intOf]; omega⟩
              · go_wp2_with fail
                go_ret
                exact ⟨by simp [hch], HBk.out⟩
            · go_wp2_with fail
              go_ret
              exact ⟨by simp [hch], HBk.out⟩
          · go_wp2_with fail
            go_ret
            exact ⟨by simp [hch], HBk.out⟩
        · go_wp2_with fail
          go_ret
          exact ⟨by simp [hch], HBk.out⟩
end Go.Proofs.YtgkhkcoojfjofaaDoor
