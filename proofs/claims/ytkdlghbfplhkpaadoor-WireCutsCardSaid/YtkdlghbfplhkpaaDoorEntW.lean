/- The row that wire writes into: an entry, a configuration; what is told. -/
import Derived.Test.YtkdlghbfplhkpaaDoorPutW
set_option linter.unusedVariables false
set_option linter.unusedSimpArgs false
namespace Go.Proofs.YtkdlghbfplhkpaaDoor
open Go.RowKit Go.Proofs.YtkdlghbfplhkpaaDoorW.PrintWords Go.Proofs.Mine

/-- An entry. -/
structure Ent where
  kd : Int
  c : Int
  q : Int
  data : ByteArray
  mem : List Int
  dst : Int
def Ent.cells (x : Ent) (v : Value) : List Value := [.int .i64 x.kd, .int .i64 x.c, .int .i64 x.q, .string x.data, v, .int .i64 x.dst]
/-- An entry's bytes, its error. -/
def entB (x : Ent) : List Int := [x.kd % 256] ++ (int8 x.c ++ int8 x.q) ++ ([(x.data.size : Int) % 256] ++ bytesOf x.data) ++ ([(x.mem.length : Int) % 256] ++ x.mem.flatMap int8) ++ [x.dst % 256]
def entE (x : Ent) : Int := orE (orE (orE (kindsE x.kd 0 4) (textE x.data)) (manyE x.mem.length 9)) (kindsE x.dst 0 2)
/-- Rows of the world w0 are read; the row that is written is behind w0. -/
structure At (w0 w : World) (F : Nat → Prop) (b : Nat) (bs : List Int) (er : Int) : Prop where
  row : RowAt w w0.heap.size F b bs er
  below : Below w0.heap.size w0 w
theorem At.step {w0 w w1 : World} {F : Nat → Prop} {b : Nat} {bs bs' : List Int} {er er' : Int} (h : At w0 w F b bs er) (k : Row' w w0.heap.size F b bs' er' w1) : ∃ F', At w0 w1 F' b bs' er' ∧ (∀ k, F' k → F k ∨ w.heap.size ≤ k) ∧ Keep F w w1 := by
  obtain ⟨F', h1, h2, h3⟩ := k
  exact ⟨F', ⟨h1, (h.below).trans (h3.to_below h.below.size (fun k hk => (h.row.2.1 k hk).1))⟩, h2, h3⟩
theorem At.alloc {w0 w : World} {F : Nat → Prop} {b : Nat} {bs : List Int} {er : Int} (h : At w0 w F b bs er) (o : Obj) : At w0 (w.alloc o) F b bs er :=
  ⟨h.row.below ((Below.refl _ _).alloc (Nat.le_refl _) o), h.below.alloc h.below.size o⟩
theorem At.away {w0 w : World} {F : Nat → Prop} {b : Nat} {bs : List Int} {er : Int} (h : At w0 w F b bs er) {A : Option Addr} {n : Nat} {l : List Int} (hr : ReadsInt w0 .i64 A n l) : 0 < n → ∀ a, A = some a → ¬ F a.block ∧ a.block < w.heap.size := by
  intro hp a ha
  obtain ⟨ad, ha', hc⟩ := hr.2.2 hp
  rw [ha] at ha'
  injection ha' with ha'
  subst ha'
  have h0 := World.block_lt_of_cell? w0 _ (hc 0 hp)
  rw [add_block] at h0
  exact ⟨fun hf => by have := (h.row.2.1 _ hf).1; omega, Nat.lt_of_lt_of_le h0 h.below.size⟩
/-- A box at block g, elder than what is written. -/
theorem Keep.box {w w1 : World} {F : Nat → Prop} {g : Nat} {o : Obj} (k : Keep F w w1) (h : w.heap[g]? = some o) (hF : ¬ F g) : w1.heap[g]? = some o := k.blk h hF
set_option maxHeartbeats 1000000 in
theorem told_any (w : World) (base b : Nat) (F : Nat → Prop) (bs : List Int) (er : Int) (hg0 : Laid w) (h : RowAt w base F b bs er) :
    Calls Tryd.prog 28 #[.pointer (some ⟨b, 0, none⟩)] w fun r w' => ∃ v, r = .returned (.tuple #[v, .int .i64 er]) ∧ Below w.heap.size w w' ∧ (er = 0 → w'.ownsRow base 5 1 v bs.length (nums .u8 bs)) ∧ (er ≠ 0 → v = .slice none 0 0) := by
  have HH := Lib.hid h
  have HG := Lib.hid hg0
  obtain ⟨A, c, ev, h1, h2, h3, h4, h5, h6⟩ := h.open_
  have hc : w.cell? ⟨b, 1, none⟩ = some ev := blk_cell h3 1
  have hc0 : w.cell? ⟨b, 0, none⟩ = some (.slice A bs.length c) := blk_cell h3 0
  have H4 := Lib.hid h4
  clear h hg0 h1 h2 h3 h4 h5
  rcases h6 with ⟨rfl, rfl⟩ | ⟨h0, b2, rfl, _, _⟩
  · go_enter Tryd.func28, Tryd.ntmps28
    go_wp2
    go_ret2
    exact ⟨_, rfl, Below.refl _ _, fun _ => H4.out, fun h => absurd rfl h⟩
  · go_enter Tryd.func28, Tryd.ntmps28
    go_wp2_with (go_at_call 59; refine (kind_row w base b F bs er HG.out HH.out).mono ?_; rintro r w1 ⟨rfl, hB⟩; have HB := Lib.hid hB; clear hB)
    go_ret2
    exact ⟨_, rfl, HB.out, fun h => absurd h h0, fun _ => rfl⟩
set_option maxHeartbeats 1000000 in
theorem config_any (w0 w : World) (F : Nat → Prop) (b : Nat) (bs : List Int) (er : Int) (A1 A2 : Option Addr) (c1 c2 : Nat) (l1 l2 : List Int) (h : At w0 w F b bs er) (h1 : ReadsInt w0 .i64 A1 l1.length l1) (h2 : ReadsInt w0 .i64 A2 l2.length l2) (hl : bs.length + 8 * l1.length + 8 * l2.length ≤ 800000) :
    Calls Tryd.prog 34 #[.pointer (some ⟨b, 0, none⟩), .agg #[.slice A1 l1.length c1, .slice A2 l2.length c2]] w fun r w' => r = .returned (.tuple #[]) ∧ Row' w w0.heap.size F b (bs ++ ([(l1.length : Int) % 256] ++ l1.flatMap int8) ++ ([(l2.length : Int) % 256] ++ l2.flatMap int8)) (orE (orE er (manyE l1.length 9)) (manyE l2.length 9)) w' := by
  have HH := Lib.hid h
  have R1 := Lib.hid h1
  have R2 := Lib.hid h2
  have hbx := Lib.hid (heap_alloc_new w (.cells #[.slice A1 l1.length c1, .slice A2 l2.length c2] 30))
  have hnb : RowKit.Hid (¬ F w.heap.size) := Lib.hid (fun hf => by have := (h.row.2.1 _ hf).2; omega)
  clear h h1 h2
  go_enter Tryd.func34, Tryd.ntmps34
  go_wp2_with (first
    | (have hx := H1.out
       go_at_call 32
       refine (ints_any A2 c2 l2 9 w1 w0.heap.size b F1 _ _ hx.row (R2.out.below hx.below) (hx.away R2.out) hlb).mono ?_
       rintro r w2 ⟨rfl, h2⟩
       have H2 := Lib.hid h2
       clear h2)
    | (go_at_call 32
       refine (ints_any A1 c1 l1 9 _ w0.heap.size b F bs er (HH.out.alloc _).row (R1.out.below (HH.out.alloc _).below) ((HH.out.alloc _).away R1.out) (by omega)).mono ?_
       rintro r w1 ⟨rfl, h1⟩
       obtain ⟨F1, hat1, hF1, hK1⟩ := (HH.out.alloc _).step h1
       have q1 : w1.cell? ⟨w.heap.size, 1, none⟩ = some (.slice A2 l2.length c2) := blk_cell (hK1.blk hbx.out hnb.out) 1
       have hlb : (bs ++ ([(l1.length : Int) % 256] ++ l1.flatMap int8)).length + 8 * l2.length ≤ 900000 := by rw [List.length_append, List.length_append, int8_flat, List.length_singleton]; omega
       have H1 := Lib.hid hat1
       have HF1 := Lib.hid hF1
       have HK1 := Lib.hid hK1
       clear h1 hat1 hF1 hK1))
  go_end0
  exact ⟨rfl, Row'.after (fun k h => .inl h) ((Keep.refl F w).alloc _) (Row'.after HF1.out HK1.out H2.out)⟩
theorem lit_ints (W : World) (xs : List Int) (h : xs.length ≤ 9223372036854775807) : ReadsInt (W.alloc (.cells (nums .i64 xs).toArray 3)) .i64 (some ⟨W.heap.size, 0, none⟩) xs.length xs :=
  own_reads' (own_lit W W.heap.size 3 .i64 xs (Nat.le_refl _) h)
/-- What an entry's walk holds: the row, the box g of the entry, what its members' row says. -/
structure EntSt (w0 : World) (x : Ent) (A : Option Addr) (cap : Nat) (W : World) (G : Nat → Prop) (w : World) (F : Nat → Prop) (b g : Nat) (bs : List Int) (er : Int) : Prop where
  at_ : At w0 w F b bs er
  mem : ReadsInt w0 .i64 A x.mem.length x.mem
  box : w.heap[g]? = some (.cells #[.int .i64 x.kd, .int .i64 x.c, .int .i64 x.q, .string x.data, .slice A x.mem.length cap, .int .i64 x.dst] 27 (0, 0))
  not : ¬ F g
  sub : ∀ k, F k → G k ∨ W.heap.size ≤ k
  keep : Keep G W w
theorem EntSt.step {w0 : World} {x : Ent} {A : Option Addr} {cap : Nat} {W : World} {G : Nat → Prop} {w w1 : World} {F : Nat → Prop} {b g : Nat} {bs bs' : List Int} {er er' : Int} (h : EntSt w0 x A cap W G w F b g bs er) (k : Row' w w0.heap.size F b bs' er' w1) : ∃ F', EntSt w0 x A cap W G w1 F' b g bs' er' := by
  obtain ⟨F', h1, h2, h3⟩ := h.at_.step k
  refine ⟨F', h1, h.mem, h3.blk h.box h.not, new_not h2 h.not (blk_lt h.box), fun k hk => ?_, h.keep.trans h3 h.sub⟩
  rcases h2 k hk with e | e
  · exact h.sub k e
  · exact .inr (Nat.le_trans h.keep.size e)
theorem EntSt.alloc {w0 : World} {x : Ent} {A : Option Addr} {cap : Nat} {W : World} {G : Nat → Prop} {w : World} {F : Nat → Prop} {b g : Nat} {bs : List Int} {er : Int} (h : EntSt w0 x A cap W G w F b g bs er) (o : Obj) : EntSt w0 x A cap W G (w.alloc o) F b g bs er :=
  ⟨h.at_.alloc o, h.mem, blk_alloc h.box o, h.not, h.sub, h.keep.alloc o⟩
set_option maxHeartbeats 2000000 in
theorem entry_any (w0 w : World) (F : Nat → Prop) (b : Nat) (bs : List Int) (er : Int) (x : Ent) (A : Option Addr) (cap : Nat) (h : At w0 w F b bs er) (hr : ReadsInt w0 .i64 A x.mem.length x.mem) (hl : bs.length + x.data.size + 8 * x.mem.length ≤ 700000) :
    Calls Tryd.prog 27 #[.pointer (some ⟨b, 0, none⟩), .agg #[.int .i64 x.kd, .int .i64 x.c, .int .i64 x.q, .string x.data, .slice A x.mem.length cap, .int .i64 x.dst]] w fun r w' => r = .returned (.tuple #[]) ∧ Row' w w0.heap.size F b (bs ++ entB x) (orE er (entE x)) w' := by
  have hst : EntSt w0 x A cap w F (w.alloc (.cells #[.int .i64 x.kd, .int .i64 x.c, .int .i64 x.q, .string x.data, .slice A x.mem.length cap, .int .i64 x.dst] 27)) F b w.heap.size bs er :=
    ⟨h.alloc _, hr, heap_alloc_new w _, fun hf => by have := (h.row.2.1 _ hf).2; omega, fun _ h => .inl h, (Keep.refl F w).alloc _⟩
  have HS := Lib.hid hst
  clear h hr hst
  obtain ⟨kd, c, q, data, mem, dst⟩ := x
  dsimp only at HS hl ⊢
  go_enter Tryd.func27, Tryd.ntmps27
  go_wp2_with (first
    | (have hx := S4.out
       go_at_call 30
       refine (kinds_any _ dst 0 2 w4 _ b F4 _ _ hx.at_.row hl4).mono ?_
       rintro r w5 ⟨rfl, h5⟩
       have H5 := Lib.hid h5
       clear h5)
    | (go_at_call 30
       refine (kinds_any _ kd 0 4 _ _ b F _ _ HS.out.at_.row (by omega)).mono ?_
       rintro r w1 ⟨rfl, h1⟩
       obtain ⟨F1, hs⟩ := HS.out.step h1
       have q1 : w1.cell? ⟨w.heap.size, 1, none⟩ = some (.int .i64 c) := blk_cell hs.box 1
       have q2 : w1.cell? ⟨w.heap.size, 2, none⟩ = some (.int .i64 q) := blk_cell hs.box 2
       have hl1 : (bs ++ [kd % 256]).length + 8 * [c, q].length ≤ 1000000 := by simp only [List.length_append, int8_flat, int8_length, bytesOf_length, List.length_cons, List.length_nil]; omega
       have S1 := Lib.hid hs
       clear h1 hs)
    | (go_at_call 29
       go_loud (refine (int_any (some ⟨w1.heap.size, 0, none⟩) 2 [c, q] _ _ b F1 _ _ (S1.out.alloc _).at_.row (lit_ints w1 [c, q] (show 2 ≤ 9223372036854775807 by decide)) (fun _ a e => by injection e with e; subst e; exact fun hf => by have := (S1.out.at_.row.2.1 _ hf).2; simp at this) hl1).mono ?_)
       rintro r w2 ⟨rfl, h2⟩
       obtain ⟨F2, hs⟩ := (S1.out.alloc _).step h2
       have q3 : w2.cell? ⟨w.heap.size, 3, none⟩ = some (.string data) := blk_cell hs.box 3
       have hl2 : (bs ++ [kd % 256] ++ [c, q].flatMap int8).length + data.size ≤ 900000 := by simp only [List.length_append, int8_flat, int8_length, bytesOf_length, List.length_cons, List.length_nil]; omega
       have S2 := Lib.hid hs
       clear h2 hs)
    | (go_at_call 58
       refine (text_any data w2 _ b F2 _ _ S2.out.at_.row hl2).mono ?_
       rintro r w3 ⟨rfl, h3⟩
       obtain ⟨F3, hs⟩ := S2.out.step h3
       have q4 : w3.cell? ⟨w.heap.size, 4, none⟩ = some (.slice A mem.length cap) := blk_cell hs.box 4
       have hl3 : (bs ++ [kd % 256] ++ [c, q].flatMap int8 ++ ([(data.size : Int) % 256] ++ bytesOf data)).length + 8 * mem.length ≤ 900000 := by simp only [List.length_append, int8_flat, int8_length, bytesOf_length, List.length_cons, List.length_nil]; omega
       have S3 := Lib.hid hs
       clear h3 hs)
    | (go_at_call 32
       go_loud (refine (ints_any A cap mem 9 w3 _ b F3 _ _ S3.out.at_.row (S3.out.mem.below S3.out.at_.below) (S3.out.at_.away S3.out.mem) hl3).mono ?_)
       rintro r w4 ⟨rfl, h4⟩
       obtain ⟨F4, hs⟩ := S3.out.step h4
       have q5 : w4.cell? ⟨w.heap.size, 5, none⟩ = some (.int .i64 dst) := blk_cell hs.box 5
       have hl4 : (bs ++ [kd % 256] ++ [c, q].flatMap int8 ++ ([(data.size : Int) % 256] ++ bytesOf data) ++ ([(mem.length : Int) % 256] ++ mem.flatMap int8)).length ≤ 1000000 := by simp only [List.length_append, int8_flat, int8_length, bytesOf_length, List.length_cons, List.length_nil]; omega
       have S4 := Lib.hid hs
       clear h4 hs))
  go_end0
  exact ⟨rfl, by have h := Row'.after S4.out.sub S4.out.keep H5.out; simpa [entB, entE, orE_assoc] using h⟩
end Go.Proofs.YtkdlghbfplhkpaaDoor
