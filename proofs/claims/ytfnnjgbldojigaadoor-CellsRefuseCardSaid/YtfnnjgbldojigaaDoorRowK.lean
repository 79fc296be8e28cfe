/- Rows of rows that stand beside a log. -/
import Derived.Test.YtfnnjgbldojigaaDoorKnoW
set_option linter.unusedVariables false
set_option linter.unusedSimpArgs false
namespace Go.Proofs.YtfnnjgbldojigaaDoor
open Go.RowKit Go.Proofs.YtfnnjgbldojigaaDoorW.PrintWords Go.Proofs.Mine Go.Proofs.Mine.Crc

/-- What lies at A is none of F's. -/
def Off (F : Nat → Prop) (A : Option Addr) (n : Nat) : Prop := 0 < n → ∀ a, A = some a → ¬ F a.block
structure RowOk (w : World) (F : Nat → Prop) (A : Option Addr) (hs : List Hd) : Prop where
  row : HRow w A hs.length hs
  ins : HdsIn w hs
  off : Off F A hs.length
  offs : ∀ y ∈ hs, Off F y.A y.l.length
theorem Off.lt {w : World} {F F' : Nat → Prop} {A : Option Addr} {n : Nat} (h : Off F A n) (hF : ∀ k, F' k → F k ∨ w.heap.size ≤ k) (hl : 0 < n → ∀ a, A = some a → a.block < w.heap.size) : Off F' A n := by
  intro hp a ha hf
  rcases hF _ hf with e | e
  · exact h hp a ha e
  · have := hl hp a ha; omega
theorem reads_lt {α : Type} {enc : α → Value} {d : α} {w : World} {A : Option Addr} {n : Nat} {l : List α} (h : ReadsOf enc d w A n l) : 0 < n → ∀ a, A = some a → a.block < w.heap.size := by
  intro hp a ha
  obtain ⟨ad, ha', hc⟩ := h.2.2 hp
  rw [ha] at ha'
  injection ha' with ha'
  subst ha'
  have := World.block_lt_of_cell? w _ (hc 0 hp)
  rw [add_block] at this
  exact this
theorem reads_away_of {α : Type} {enc : α → Value} {d : α} {w w1 : World} {A : Option Addr} {n : Nat} {l : List α} {G : Nat → Prop} (h : ReadsOf enc d w A n l) (k : Keep G w w1) (hA : Off G A n) : ReadsOf enc d w1 A n l := by
  refine ⟨h.1, h.2.1, fun hp => ?_⟩
  obtain ⟨ad, ha, hc⟩ := h.2.2 hp
  exact ⟨ad, ha, fun i hi => k.cell (hc i hi) (by rw [add_block]; exact hA hp ad ha)⟩
theorem RowOk.step {w w1 : World} {F F' : Nat → Prop} {A : Option Addr} {hs : List Hd} (h : RowOk w F A hs) (k : Keep F w w1) (hF : ∀ k, F' k → F k ∨ w.heap.size ≤ k) : RowOk w1 F' A hs :=
  ⟨reads_away_of h.row k h.off, fun y hy => ⟨reads_away_of (h.ins y hy).1 k (h.offs y hy), (h.ins y hy).2⟩, h.off.lt hF (reads_lt h.row), fun y hy => (h.offs y hy).lt hF (reads_lt (h.ins y hy).1)⟩
theorem RowOk.below {w w1 : World} {F : Nat → Prop} {A : Option Addr} {hs : List Hd} (h : RowOk w F A hs) (hB : Below w.heap.size w w1) : RowOk w1 F A hs := ⟨h.row.below hB, h.ins.below hB, h.off, h.offs⟩
/-- An argument's rows. -/
theorem RowOk.arg {w0 w : World} {F : Nat → Prop} {A : Option Addr} {hs : List Hd} (hr : HRow w0 A hs.length hs) (hi : HdsIn w0 hs) (hB : Below w0.heap.size w0 w) (hF : ∀ k, F k → w0.heap.size ≤ k) : RowOk w F A hs :=
  ⟨hr.below hB, hi.below hB, fun hp a ha hf => by have := reads_lt hr hp a ha; have := hF _ hf; omega, fun y hy hp a ha hf => by have := reads_lt (hi y hy).1 hp a ha; have := hF _ hf; omega⟩
/-- A new row of some that were there. -/
theorem RowOk.new {w w1 : World} {base : Nat} {F : Nat → Prop} {A B : Option Addr} {c : Nat} {hs ks : List Hd} (h : RowOk w F A hs) (hB : Below w.heap.size w w1) (hv : HOwn w1 base (.slice B ks.length c) ks) (hb : w.heap.size ≤ base) (hF : ∀ k, F k → k < w.heap.size) (hk : ∀ y, y ∈ ks → y ∈ hs) : RowOk w1 F B ks := by
  obtain ⟨B', c', he, hr⟩ := own_reads_of (d := hd0) hv
  injection he with h1 h2 h3
  subst h1
  refine ⟨hr, fun y hy => ⟨((h.ins y (hk y hy)).1).below hB, (h.ins y (hk y hy)).2⟩, fun hp a ha hf => ?_, fun y hy => h.offs y (hk y hy)⟩
  subst ha
  have := own_base hv a.block rfl
  have := hF _ hf
  omega
theorem small_room (rs : List (List UInt8)) (m : Nat) (h : ∀ r ∈ rs, r.length ≤ m) : (framesOf rs).length ≤ (m + 8) * rs.length := by
  induction rs with
  | nil => simp [framesOf]
  | cons r rs ih =>
    have h1 := ih (fun x hx => h x (List.mem_cons_of_mem _ hx))
    have h2 := h r (List.mem_cons_self ..)
    have e : framesOf (r :: rs) = frameOf r ++ framesOf rs := by simp [framesOf]
    rw [e, List.length_append, frameOf_length, List.length_cons, Nat.mul_add, Nat.mul_one]
    omega
theorem wholeOf_app (R A : List (List UInt8)) : wholeOf (R ++ A) (framesOf R).length = R.length := by
  induction R with
  | nil =>
    cases A with
    | nil => rfl
    | cons a A => simp [wholeOf, framesOf]
  | cons r R ih =>
    have e : framesOf (r :: R) = frameOf r ++ framesOf R := by simp [framesOf]
    rw [e, List.length_append, frameOf_length, List.cons_append]
    unfold wholeOf
    rw [if_pos (by omega), show r.length + 8 + (framesOf R).length - (r.length + 8) = (framesOf R).length from by omega, ih, List.length_cons]
    omega
theorem wholeOf_all (R : List (List UInt8)) : wholeOf R (framesOf R).length = R.length := by have := wholeOf_app R []; rwa [List.append_nil] at this
theorem maps_take (hs : List Hd) (k : Nat) (y : Hd) (hy : hs[k]? = some y) : (hs.take (k + 1)).map (·.l) = (hs.take k).map (·.l) ++ [y.l] := by rw [List.take_add_one, hy]; simp
/-- Records that are small. -/
theorem small_all {hs : List Hd} (k : Nat) : ∀ r ∈ ((smallH hs).take k).map (·.l), r.length ≤ 300 := by
  intro r hr
  obtain ⟨z, hz, rfl⟩ := List.mem_map.1 hr
  exact (smallH_mem (List.mem_of_mem_take hz)).2
theorem small_all' {hs : List Hd} : ∀ r ∈ (smallH hs).map (·.l), r.length ≤ 300 := by
  intro r hr
  obtain ⟨z, hz, rfl⟩ := List.mem_map.1 hr
  exact (smallH_mem hz).2
/-- One record of a row beside the log, appended. -/
theorem cal_append_row (w0 w : World) (bt bl : Nat) (room ops : Int) (rs : List (List UInt8)) (sy : Nat) (F : Nat → Prop) (A : Option Addr) (hs : List Hd) (k : Nat) (y : Hd) (h : WalIn w0 bt bl (gs room rs sy ops) (gl rs) w F) (ho : ops < 1000000000) (hx : RowOk w F A hs) (hy : hs[k]? = some y) (hxl : y.l.length ≤ 65536) (hr : rs.length ≤ 1000000) (hroom : ((framesOf rs).length : Int) + (y.l.length : Int) + 8 ≤ room) :
    Calls Tryd.prog 18 #[.pointer (some ⟨bl, 0, none⟩), .slice y.A y.l.length y.c] w fun r w' => r = .returned (.int .i64 0) ∧ WalOut w0 bt bl (gs room (rs ++ [y.l]) sy (ops + 1)) (gl (rs ++ [y.l])) w F w' :=
  cal_append y.A y.c y.l w0 w bt bl room ops rs sy F h ho (hx.ins y (List.mem_of_getElem? hy)).1 hxl (hx.offs y (List.mem_of_getElem? hy)) hr hroom
/-- A row of one's own beside the log. -/
def OwnOk (w : World) (F : Nat → Prop) (base : Nat) (v : Value) (hs : List Hd) : Prop := HOwn w base v hs ∧ ∀ k, v.ownBlock = some k → ¬ F k
theorem OwnOk.step {w w1 : World} {F F' : Nat → Prop} {base : Nat} {v : Value} {hs : List Hd} (h : OwnOk w F base v hs) (k : Keep F w w1) (hF : ∀ k, F' k → F k ∨ w.heap.size ≤ k) : OwnOk w1 F' base v hs :=
  ⟨k.own h.1 h.2, fun j hj hf => by
    rcases hF j hf with e | e
    · exact h.2 j hj e
    · have := own_lt h.1 j hj; omega⟩
theorem OwnOk.below {w w1 : World} {F : Nat → Prop} {base : Nat} {v : Value} {hs : List Hd} (h : OwnOk w F base v hs) (hB : Below w.heap.size w w1) : OwnOk w1 F base v hs := ⟨pw_own_below h.1 hB, h.2⟩
theorem RowOk.app {w w1 : World} {base : Nat} {F : Nat → Prop} {B : Option Addr} {c : Nat} {hs ks : List Hd} (hv : HOwn w1 base (.slice B (hs ++ ks).length c) (hs ++ ks)) (hF : ∀ k, (Value.slice B (hs ++ ks).length c).ownBlock = some k → ¬ F k) (h : HdsIn w1 (hs ++ ks)) (ho : ∀ y ∈ hs ++ ks, Off F y.A y.l.length) : RowOk w1 F B (hs ++ ks) := by
  obtain ⟨B', c', he, hr⟩ := own_reads_of (d := hd0) hv
  injection he with h1 h2 h3
  subst h1
  exact ⟨hr, h, fun hp a ha hf => by subst ha; exact hF a.block rfl hf, ho⟩
/-- A row of one's own of what an argument had. -/
theorem RowOk.own {w0 w1 : World} {base : Nat} {F : Nat → Prop} {A : Option Addr} {c : Nat} {hs : List Hd} (hv : HOwn w1 base (.slice A hs.length c) hs) (hi : HdsIn w0 hs) (hB : Below w0.heap.size w0 w1) (hF : ∀ k, F k → w0.heap.size ≤ k) (hoff : ∀ k, (Value.slice A hs.length c).ownBlock = some k → ¬ F k) : RowOk w1 F A hs := by
  obtain ⟨B', c', he, hr⟩ := own_reads_of (d := hd0) hv
  injection he with h1 h2 h3
  subst h1
  exact ⟨hr, hi.below hB, fun hp a ha hf => by subst ha; exact hoff a.block rfl hf, fun y hy hp a ha hf => by have := reads_lt (hi y hy).1 hp a ha; have := hF _ hf; omega⟩
theorem frames_app (R A : List (List UInt8)) : (framesOf (R ++ A)).length = (framesOf R).length + (framesOf A).length := by simp [framesOf]
theorem small_rows {hs ks : List Hd} (h : ∀ y ∈ hs, y.l.length ≤ 300) (k : ∀ y ∈ ks, y.l.length ≤ 300) : ∀ r ∈ hs.map (·.l) ++ ks.map (·.l), r.length ≤ 300 := by
  intro r hr
  rcases List.mem_append.1 hr with hr | hr
  · obtain ⟨z, hz, rfl⟩ := List.mem_map.1 hr; exact h z hz
  · obtain ⟨z, hz, rfl⟩ := List.mem_map.1 hr; exact k z hz
theorem own_lt_size {w : World} {base : Nat} {v : Value} {hs : List Hd} (h : HOwn w base v hs) : True := trivial
theorem small_le (hs : List Hd) (RS : List (List UInt8)) (h : RS.take (hs.map (·.l)).length = hs.map (·.l)) (hl : (framesOf RS).length ≤ 1000000) : (framesOf (hs.map (·.l))).length ≤ 1000000000 := by
  rw [← h, endOf_wholes, List.length_take]; omega
theorem crashK_zero (s : TS) : crashK s 0 = 0 := by unfold crashK; rw [Int.zero_emod]; rfl
theorem cal_append_pre (w0 w : World) (bt bl : Nat) (ops : Int) (P : List (List UInt8)) (sy : Nat) (F : Nat → Prop) (A : Option Addr) (hs : List Hd) (k : Nat) (y : Hd) (h : WalIn w0 bt bl (gs 1048576 (P ++ (hs.take k).map (·.l)) sy ops) (gl (P ++ (hs.take k).map (·.l))) w F) (ho : ops < 1000000000) (hx : RowOk w F A hs) (hy : hs[k]? = some y) (hsm : ∀ y ∈ hs, y.l.length ≤ 300) (h8 : hs.length ≤ 8) (hP : (framesOf P).length ≤ 10000) (hPl : P.length ≤ 1000) :
    Calls Tryd.prog 18 #[.pointer (some ⟨bl, 0, none⟩), .slice y.A y.l.length y.c] w fun r w' => r = .returned (.int .i64 0) ∧ WalOut w0 bt bl (gs 1048576 (P ++ (hs.take (k + 1)).map (·.l)) sy (ops + 1)) (gl (P ++ (hs.take (k + 1)).map (·.l))) w F w' := by
  have hyl := hsm y (List.mem_of_getElem? hy)
  have hk := (List.getElem?_eq_some_iff.1 hy).1
  have hb := small_room ((hs.take k).map (·.l)) 300 (fun r hr => by
    obtain ⟨z, hz, rfl⟩ := List.mem_map.1 hr
    exact hsm z (List.mem_of_mem_take hz))
  have hl : ((hs.take k).map (·.l)).length = k := by rw [List.length_map, List.length_take]; omega
  rw [hl] at hb
  have hfa : (framesOf (P ++ (hs.take k).map (·.l))).length = (framesOf P).length + (framesOf ((hs.take k).map (·.l))).length := by simp [framesOf]
  refine (cal_append_row w0 w bt bl 1048576 ops _ sy F A hs k y h ho hx hy (by omega) (by rw [List.length_append, hl]; omega) (by rw [hfa]; push_cast; omega)).mono ?_
  rintro r w' ⟨rfl, h1⟩
  rw [maps_take hs k y hy, ← List.append_assoc]
  exact ⟨rfl, h1⟩
end Go.Proofs.YtfnnjgbldojigaaDoor
