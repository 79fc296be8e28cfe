/- The row that wire writes into: many, kinds, text, ints. -/
import Derived.Test.YtkdlghbfplhkpaaDoorIntW
import Derived.Test.YtkdlghbfplhkpaaDoorStrF
set_option linter.unusedVariables false
set_option linter.unusedSimpArgs false
namespace Go.Proofs.YtkdlghbfplhkpaaDoor
open Go.RowKit Go.Proofs.YtkdlghbfplhkpaaDoorW.PrintWords Go.Proofs.Mine

/-- The first error is kept. -/
def orE (er e : Int) : Int := if er = 0 then e else er
theorem orE_zero (er : Int) : orE er 0 = er := by unfold orE; split <;> simp_all
theorem orE_assoc (a b c : Int) : orE (orE a b) c = orE a (orE b c) := by unfold orE; by_cases h : a = 0 <;> simp [h]
def manyE (n most : Int) : Int := if most < n then 4 else 0
def kindsE (n f t : Int) : Int := if n < f ∨ t < n then 3 else 0
def textE (s : ByteArray) : Int := if (16 : Int) < (s.size : Int) then 5 else 0
theorem new_not {w : World} {F F1 : Nat → Prop} {k : Nat} (hF : ∀ j, F1 j → F j ∨ w.heap.size ≤ j) (h : ¬ F k) (hl : k < w.heap.size) : ¬ F1 k := fun hk => (hF k hk).elim h (fun h => by omega)
theorem reads_keep {w w1 : World} {F : Nat → Prop} {A : Option Addr} {n : Nat} {l : List Int} (h : ReadsInt w .i64 A n l) (k : Keep F w w1) (hA : 0 < n → ∀ a, A = some a → ¬ F a.block) : ReadsInt w1 .i64 A n l := by
  refine ⟨h.1, h.2.1, fun hp => ?_⟩
  obtain ⟨ad, ha, hc⟩ := h.2.2 hp
  exact ⟨ad, ha, fun i hi => k.cell (hc i hi) (by rw [add_block]; exact hA hp ad ha)⟩
theorem Row'.then {w w1 w2 : World} {base b : Nat} {F F1 : Nat → Prop} {bs : List Int} {er : Int} (hF1 : ∀ k, F1 k → F k ∨ w.heap.size ≤ k) (hK : Keep F w w1) (h : Row' w1 base F1 b bs er w2) : Row' w base F b bs er w2 := Row'.after hF1 hK h
set_option maxHeartbeats 1000000 in
theorem many_any (s : ByteArray) (n most : Int) (w : World) (base b : Nat) (F : Nat → Prop) (bs : List Int) (er : Int) (h : RowAt w base F b bs er) (hl : bs.length ≤ 1000000) :
    Calls Tryd.prog 33 #[.pointer (some ⟨b, 0, none⟩), .string s, .int .i64 n, .int .i64 most] w fun r w' => r = .returned (.tuple #[]) ∧ Row' w base F b (bs ++ [n % 256]) (orE er (manyE n most)) w' := by
  have HH := Lib.hid h
  clear h
  cases hd : decide (most < n)
  · have he : manyE n most = 0 := if_neg (of_decide_eq_false hd)
    rw [he, orE_zero]
    clear he
    go_enter Tryd.func33, Tryd.ntmps33
    go_wp2_with (go_at_call 31; refine (byte_any n w base b F bs er HH.out hl).mono ?_; rintro r w2 ⟨rfl, h2⟩; have H2 := Lib.hid h2; clear h2)
    go_end0
    exact ⟨rfl, H2.out⟩
  · have he : manyE n most = 4 := if_pos (of_decide_eq_true hd)
    rw [he]
    clear he
    go_enter Tryd.func33, Tryd.ntmps33
    go_wp2_with (first
      | (go_at_call 39; refine (fail_any s 4 w base b F bs er HH.out (by decide)).mono ?_; rintro r w1 ⟨rfl, h1⟩; obtain ⟨F1, hr1, hF1, hK1⟩ := (show Row' w base F b bs (orE er _) w1 from h1); have HR1 := Lib.hid hr1; have HF1 := Lib.hid hF1; have HK1 := Lib.hid hK1; clear hr1 hF1 hK1)
      | (go_at_call 31; refine (byte_any n w1 base b F1 bs _ HR1.out hl).mono ?_; rintro r w2 ⟨rfl, h2⟩; have H2 := Lib.hid h2; clear h2))
    go_end0
    exact ⟨rfl, Row'.after HF1.out HK1.out H2.out⟩
set_option maxHeartbeats 1000000 in
theorem kinds_any (s : ByteArray) (n f t : Int) (w : World) (base b : Nat) (F : Nat → Prop) (bs : List Int) (er : Int) (h : RowAt w base F b bs er) (hl : bs.length ≤ 1000000) :
    Calls Tryd.prog 30 #[.pointer (some ⟨b, 0, none⟩), .string s, .int .i64 n, .int .i64 f, .int .i64 t] w fun r w' => r = .returned (.tuple #[]) ∧ Row' w base F b (bs ++ [n % 256]) (orE er (kindsE n f t)) w' := by
  have HH := Lib.hid h
  clear h
  cases hd : decide (n < f) <;> cases hd2 : decide (t < n)
  · have he : kindsE n f t = 0 := if_neg (fun h => h.elim (of_decide_eq_false hd) (of_decide_eq_false hd2))
    rw [he, orE_zero]
    clear he
    go_enter Tryd.func30, Tryd.ntmps30
    go_wp2_with (go_at_call 31; refine (byte_any n w base b F bs er HH.out hl).mono ?_; rintro r w2 ⟨rfl, h2⟩; have H2 := Lib.hid h2; clear h2)
    go_end0
    exact ⟨rfl, H2.out⟩
  all_goals
    have he : kindsE n f t = 3 := if_pos (by first | exact .inl (of_decide_eq_true hd) | exact .inr (of_decide_eq_true hd2))
    rw [he]
    clear he
    go_enter Tryd.func30, Tryd.ntmps30
    go_wp2_with (first
      | (go_at_call 39; refine (fail_any s 3 w base b F bs er HH.out (by decide)).mono ?_; rintro r w1 ⟨rfl, h1⟩; obtain ⟨F1, hr1, hF1, hK1⟩ := (show Row' w base F b bs (orE er _) w1 from h1); have HR1 := Lib.hid hr1; have HF1 := Lib.hid hF1; have HK1 := Lib.hid hK1; clear hr1 hF1 hK1)
      | (go_at_call 31; refine (byte_any n w1 base b F1 bs _ HR1.out hl).mono ?_; rintro r w2 ⟨rfl, h2⟩; have H2 := Lib.hid h2; clear h2))
    go_end0
    exact ⟨rfl, Row'.after HF1.out HK1.out H2.out⟩
set_option maxHeartbeats 1000000 in
theorem ints_any (A : Option Addr) (cap : Nat) (l : List Int) (most : Int) (w : World) (base b : Nat) (F : Nat → Prop) (bs : List Int) (er : Int) (h : RowAt w base F b bs er) (hr : ReadsInt w .i64 A l.length l) (hA : 0 < l.length → ∀ a, A = some a → ¬ F a.block ∧ a.block < w.heap.size) (hl : bs.length + 8 * l.length ≤ 900000) :
    Calls Tryd.prog 32 #[.pointer (some ⟨b, 0, none⟩), .slice A l.length cap, .int .i64 most] w fun r w' => r = .returned (.tuple #[]) ∧ Row' w base F b (bs ++ ([(l.length : Int) % 256] ++ l.flatMap int8)) (orE er (manyE l.length most)) w' := by
  have HH := Lib.hid h
  have HR := Lib.hid hr
  have HA := Lib.hid hA
  clear h hr hA
  go_enter Tryd.func32, Tryd.ntmps32
  go_wp2_with (first
    | (go_at_call 33; refine (many_any _ _ _ w base b F bs er HH.out (by omega)).mono ?_; rintro r w1 ⟨rfl, h1⟩; obtain ⟨F1, hr1, hF1, hK1⟩ := h1; have HR1 := Lib.hid hr1; have HF1 := Lib.hid hF1; have HK1 := Lib.hid hK1; clear hr1 hF1 hK1)
    | (go_at_call 29; refine (int_any A cap l w1 base b F1 _ _ HR1.out (reads_keep HR.out HK1.out (fun hp a e => (HA.out hp a e).1)) (fun hp a e => new_not HF1.out (HA.out hp a e).1 (HA.out hp a e).2) (by rw [List.length_append, List.length_singleton]; omega)).mono ?_; rintro r w2 ⟨rfl, h2⟩; have H2 := Lib.hid h2; clear h2))
  go_end0
  exact ⟨rfl, by have h := Row'.after HF1.out HK1.out H2.out; rwa [List.append_assoc] at h⟩

/-- What text has: the row, its length put, laid open. -/
def RowOpen (w : World) (base : Nat) (F : Nat → Prop) (b : Nat) (cs : List Int) (er : Int) (A : Option Addr) (c : Nat) (ev : Value) : Prop :=
  F b ∧ (∀ k, F k → base ≤ k ∧ k < w.heap.size) ∧ w.heap[b]? = some (.cells #[.slice A cs.length c, ev] 70 (0, 0)) ∧ w.ownsRow base 5 1 (.slice A cs.length c) cs.length (nums .u8 cs) ∧ (∀ k, (Value.slice A cs.length c).ownBlock = some k → F k ∧ k ≠ b) ∧ ErrIs w F ev er
theorem RowAt.open_ {w : World} {base b : Nat} {F : Nat → Prop} {cs : List Int} {er : Int} (h : RowAt w base F b cs er) : ∃ A c ev, RowOpen w base F b cs er A c ev := by
  obtain ⟨h1, h2, v, ev, h3, h4, h5, h6⟩ := h
  obtain ⟨A, c, rfl⟩ := own_slice h4
  exact ⟨A, c, ev, h1, h2, h3, h4, h5, h6⟩
set_option maxHeartbeats 1000000 in
theorem text_any (s : ByteArray) (w : World) (base b : Nat) (F : Nat → Prop) (bs : List Int) (er : Int) (h : RowAt w base F b bs er) (hl : bs.length + s.size ≤ 900000) :
    Calls Tryd.prog 58 #[.pointer (some ⟨b, 0, none⟩), .string s] w fun r w' => r = .returned (.tuple #[]) ∧ Row' w base F b (bs ++ ([(s.size : Int) % 256] ++ bytesOf s)) (orE er (textE s)) w' := by
  have HH := Lib.hid h
  clear h
  obtain ⟨n, hn⟩ : ∃ n : Nat, n = s.size := ⟨_, rfl⟩
  have hlen : bs.length ≤ 1000000 := by omega
  cases hd : decide ((16 : Int) < (s.size : Int))
  · have he : textE s = 0 := if_neg (of_decide_eq_false hd)
    rw [he, orE_zero]
    clear he
    go_enter Tryd.func58, Tryd.ntmps58
    go_wp2_with (first
      | (go_at_call 31; refine (byte_any _ w base b F bs _ HH.out hlen).mono ?_; rintro r w2 ⟨rfl, h2⟩
         obtain ⟨F2, hr2, hF2, hK2⟩ := h2
         obtain ⟨A, c, ev, ho⟩ := hr2.open_
         have HO := Lib.hid ho
         have HF2 := Lib.hid hF2
         have HK2 := Lib.hid hK2
         have hc2 : w2.cell? ⟨b, 0, none⟩ = some (.slice A (bs ++ [(s.size : Int) % 256]).length c) := blk_cell ho.2.2.1 0
         have hbw : base ≤ w2.heap.size := by have := (ho.2.1 b ho.1).1; have := (ho.2.1 b ho.1).2; omega
         have hls : (bs ++ [(s.size : Int) % 256]).length + s.size ≤ 140737488355328 := by rw [List.length_append, List.length_singleton]; omega
         generalize hcs : bs ++ [(s.size : Int) % 256] = cs at *
         have HCS := Lib.hid hcs
         clear hr2 ho hF2 hK2 hcs)
      | (at_builtin; refine wpList_append_str w2 rfl _ _ 24 9 rfl base 5 Tryd.underlying24 Tryd.underlying9 info5 (.slice A cs.length c) cs ?a1 HO.out.2.2.2.1 s ?a2 hls hbw ?a7
         case a1 => rfl
         case a2 => rfl
         intro v1 w3 hown hg hat
         have NE : some b ≠ (Value.slice A cs.length c).ownBlock := fun e => (HO.out.2.2.2.2.1 b e.symm).2 rfl
         have hc3 : w3.cell? ⟨b, 0, none⟩ = some (.slice A cs.length c) := blk_cell (blk_grown HO.out.2.2.1 hg NE) 0
         have hf3 : w3.frozen? ⟨b, 0, none⟩ = false := blk_frozen (blk_grown HO.out.2.2.1 hg NE) 0
         have H3 := Lib.hid (row_grown HO.out.1 HO.out.2.1 HO.out.2.2.1 HO.out.2.2.2.2.1 HO.out.2.2.2.2.2 hown hg hat)
         obtain ⟨A1, c1, rfl⟩ := own_slice hown
         clear hown hg hat NE))
    go_end0
    exact ⟨rfl, by have h := Row'.after HF2.out HK2.out H3.out; rw [List.append_cons, HCS.out]; rwa [List.length_append] at h⟩
  · have he : textE s = 5 := if_pos (of_decide_eq_true hd)
    rw [he]
    clear he
    go_enter Tryd.func58, Tryd.ntmps58
    go_wp2_with (first
      | (go_at_call 39; refine (fail_any _ 5 w base b F bs er HH.out (by decide)).mono ?_; rintro r w1 ⟨rfl, h1⟩; obtain ⟨F1, hr1, hF1, hK1⟩ := (show Row' w base F b bs (orE er 5) w1 from h1); have HR1 := Lib.hid hr1; have HF1 := Lib.hid hF1; have HK1 := Lib.hid hK1; clear hr1 hF1 hK1)
      | (go_at_call 31; refine (byte_any _ w1 base b F1 bs _ HR1.out hlen).mono ?_; rintro r w2 ⟨rfl, h2⟩
         obtain ⟨F2, hr2, hF2, hK2⟩ := h2
         obtain ⟨A, c, ev, ho⟩ := hr2.open_
         have HO := Lib.hid ho
         have HF2 := Lib.hid hF2
         have HK2 := Lib.hid hK2
         have hc2 : w2.cell? ⟨b, 0, none⟩ = some (.slice A (bs ++ [(s.size : Int) % 256]).length c) := blk_cell ho.2.2.1 0
         have hbw : base ≤ w2.heap.size := by have := (ho.2.1 b ho.1).1; have := (ho.2.1 b ho.1).2; omega
         have hls : (bs ++ [(s.size : Int) % 256]).length + s.size ≤ 140737488355328 := by rw [List.length_append, List.length_singleton]; omega
         generalize hcs : bs ++ [(s.size : Int) % 256] = cs at *
         have HCS := Lib.hid hcs
         clear hr2 ho hF2 hK2 hcs)
      | (at_builtin; go_loud (refine wpList_append_str w2 rfl _ _ 24 9 rfl base 5 Tryd.underlying24 Tryd.underlying9 info5 (.slice A cs.length c) cs ?b1 HO.out.2.2.2.1 s ?b2 hls hbw ?b7)
         case b1 => rfl
         case b2 => rfl
         intro v1 w3 hown hg hat
         have NE : some b ≠ (Value.slice A cs.length c).ownBlock := fun e => (HO.out.2.2.2.2.1 b e.symm).2 rfl
         have hc3 : w3.cell? ⟨b, 0, none⟩ = some (.slice A cs.length c) := blk_cell (blk_grown HO.out.2.2.1 hg NE) 0
         have hf3 : w3.frozen? ⟨b, 0, none⟩ = false := blk_frozen (blk_grown HO.out.2.2.1 hg NE) 0
         go_loud (have H3 := Lib.hid (row_grown HO.out.1 HO.out.2.1 HO.out.2.2.1 HO.out.2.2.2.2.1 HO.out.2.2.2.2.2 hown hg hat))
         obtain ⟨A1, c1, rfl⟩ := own_slice hown
         clear hown hg hat NE))
    go_end0
    exact ⟨rfl, by have h := Row'.after HF1.out HK1.out (Row'.after HF2.out HK2.out H3.out); rw [List.append_cons, HCS.out]; rwa [List.length_append] at h⟩
end Go.Proofs.YtkdlghbfplhkpaaDoor
