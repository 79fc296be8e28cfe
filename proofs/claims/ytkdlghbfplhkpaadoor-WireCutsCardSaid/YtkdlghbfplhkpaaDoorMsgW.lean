/- Entries in a row; EncodeMsg. -/
import Derived.Test.YtkdlghbfplhkpaaDoorEncW
import Derived.Test.YtkdlghbfplhkpaaDoorOpen
set_option linter.unusedVariables false
set_option linter.unusedSimpArgs false
namespace Go.Proofs.YtkdlghbfplhkpaaDoor
open Go.RowKit Go.Proofs.YtkdlghbfplhkpaaDoorW.PrintWords Go.Proofs.Mine

theorem Ent.one {x : Ent} {v : Value} (h : v.oneCell' = true) : ∀ u ∈ x.cells v, u.oneCell' = true := by
  intro u hu
  simp only [Ent.cells, List.mem_cons, List.not_mem_nil, or_false] at hu
  rcases hu with rfl | rfl | rfl | rfl | rfl | rfl <;> first | rfl | exact h
def entK : Kd Ent where
  sz := 6
  E := [3]
  K := fun w x cs => ∃ A c, cs = x.cells (.slice A x.mem.length c) ∧ x.mem.length ≤ c ∧ ReadsInt w .i64 A x.mem.length x.mem
  M := fun w base ok x cs => ∃ v, cs = x.cells v ∧ w.ownsRow base 3 1 v x.mem.length (nums .i64 x.mem) ∧ ∀ k, v.ownBlock = some k → ok k
  K_len := by rintro w x cs ⟨A, c, rfl, _⟩; rfl
  K_one := by rintro w x cs ⟨A, c, rfl, _⟩; exact Ent.one rfl
  K_below := by rintro w w1 x cs hb ⟨A, c, rfl, h1, h2⟩; exact ⟨A, c, rfl, h1, h2.below hb⟩
  K_of_M := by
    rintro w base ok x cs ⟨v, rfl, ho, _⟩
    obtain ⟨A, c, rfl, hr⟩ := own_reads ho
    refine ⟨A, c, rfl, ?_, hr⟩
    rcases ho.2 with ⟨h, h2⟩ | ⟨g, cap, cur, h, _, _, h1, _⟩
    · rw [h2]; omega
    · injection h with _ _ h3; omega
  M_mono := by rintro w base ok ok' x cs hk ⟨v, rfl, ho, h⟩; exact ⟨v, rfl, ho, fun k hk' => hk k (h k hk')⟩
  M_bound := by
    rintro w base ok x cs ⟨v, rfl, ho, h⟩
    exact ⟨v, rfl, ho, fun k hk => ⟨h k hk, own_base ho k hk, own_lt ho k hk, 3, by simp, own_typed ho k hk⟩⟩
  M_move := by rintro w w1 base ok x cs hm ⟨v, rfl, ho, h⟩; exact ⟨v, rfl, own_move ho (fun k hk => hm k (h k hk)), h⟩
  M_lower := by rintro w base base' ok x cs hb ⟨v, rfl, ho, h⟩; exact ⟨v, rfl, own_less ho hb, h⟩

def EntAt (W : World) (a : Addr) (x : Ent) : Prop :=
  ∃ A c, W.cell? a = some (.int .i64 x.kd) ∧ W.cell? ⟨a.block, a.off + 1, none⟩ = some (.int .i64 x.c) ∧ W.cell? ⟨a.block, a.off + 2, none⟩ = some (.int .i64 x.q) ∧ W.cell? ⟨a.block, a.off + 3, none⟩ = some (.string x.data) ∧ W.cell? ⟨a.block, a.off + 4, none⟩ = some (.slice A x.mem.length c) ∧ W.cell? ⟨a.block, a.off + 5, none⟩ = some (.int .i64 x.dst) ∧ x.mem.length ≤ c ∧ ReadsInt W .i64 A x.mem.length x.mem
theorem entAt_of {W : World} {A : Option Addr} {n : Nat} {l : List Ent} (h : entK.C W A n l) {i : Nat} {x : Ent} (hx : l[i]? = some x) : ∃ ad, A = some ad ∧ EntAt W (ad.add (i * 6)) x := by
  obtain ⟨hl, _⟩ := List.getElem?_eq_some_iff.1 hx
  obtain ⟨ad, hA, hc⟩ := h.2.2 (by have := h.1; omega)
  obtain ⟨cs, h2, h1, h3⟩ := hc i x hx
  obtain ⟨A', c, rfl, hlc, hr⟩ := h1
  have h4 : ∀ j u, (x.cells (.slice A' x.mem.length c))[j]? = some u → W.cell? ((ad.add (i * 6)).add j) = some u := fun j u hu => by
    rw [Mine.add_add]
    exact h3 j u hu
  refine ⟨ad, hA, A', c, by simpa [Addr.add] using h4 0 _ rfl, ?_, ?_, ?_, ?_, ?_, hlc, hr⟩
  · simpa [Addr.add] using h4 1 _ rfl
  · simpa [Addr.add] using h4 2 _ rfl
  · simpa [Addr.add] using h4 3 _ rfl
  · simpa [Addr.add] using h4 4 _ rfl
  · simpa [Addr.add] using h4 5 _ rfl
theorem EntAt.below {w w1 : World} {a : Addr} {x : Ent} (h : EntAt w a x) (hb : Below w.heap.size w w1) : EntAt w1 a x := by
  obtain ⟨A, c, h0, h1, h2, h3, h4, h5, h6, h7⟩ := h
  exact ⟨A, c, pw_cell_below hb h0, pw_cell_below hb h1, pw_cell_below hb h2, pw_cell_below hb h3, pw_cell_below hb h4, pw_cell_below hb h5, h6, h7.below hb⟩
theorem take_get {α : Type} {l : List α} {k : Nat} {x : α} (h : l[k]? = some x) : l.take (k + 1) = l.take k ++ [x] := by
  obtain ⟨hl, hx⟩ := List.getElem?_eq_some_iff.1 h
  rw [List.take_succ_eq_append_getElem hl, hx]

/-- A message. -/
structure Msg where
  fr : Int
  tto : Int
  gen : Int
  kd : Int
  term : Int
  index : Int
  last : Int
  commit : Int
  yes : Bool
  terms : List Int
  ents : List Ent
  old : List Int
  new : List Int
def listB (l : List Int) : List Int := [(l.length : Int) % 256] ++ l.flatMap int8
def yesI (y : Bool) : Int := if y then 1 else 0
def entsE (er : Int) (l : List Ent) : Int := l.foldl (fun e x => orE e (entE x)) er
def msgH (m : Msg) : List Int := [m.fr, m.tto, m.gen].flatMap int8 ++ [m.kd % 256] ++ [m.term, m.index, m.last, m.commit].flatMap int8 ++ [yesI m.yes % 256] ++ ([(m.terms.length : Int) % 256] ++ m.terms.flatMap int8) ++ [(m.ents.length : Int) % 256]
def msgHE (m : Msg) : Int := orE (orE (kindsE m.kd 1 15) (manyE m.terms.length 64)) (manyE m.ents.length 64)
def msgB (m : Msg) : List Int := msgH m ++ m.ents.flatMap entB ++ ([(m.old.length : Int) % 256] ++ m.old.flatMap int8) ++ ([(m.new.length : Int) % 256] ++ m.new.flatMap int8)
def msgE (m : Msg) : Int := orE (orE (entsE (msgHE m) m.ents) (manyE m.old.length 9)) (manyE m.new.length 9)
theorem entB_length (x : Ent) : (entB x).length = 20 + x.data.size + 8 * x.mem.length := by
  simp only [entB, List.length_append, int8_flat, int8_length, bytesOf_length, List.length_cons, List.length_nil]; omega
theorem ents_length (l : List Ent) (h : ∀ x ∈ l, x.data.size ≤ 400 ∧ x.mem.length ≤ 100) : (l.flatMap entB).length ≤ 1220 * l.length := by
  induction l with
  | nil => simp
  | cons x l ih =>
    have h1 := h x (by simp)
    have h2 := ih (fun y hy => h y (by simp [hy]))
    rw [List.flatMap_cons, List.length_append, entB_length, List.length_cons]; omega
/-- A message as it is read. -/
structure MsgIs (w : World) (m : Msg) (At Ae Ao An : Option Addr) : Prop where
  terms : ReadsInt w .i64 At m.terms.length m.terms
  ents : entK.C w Ae m.ents.length m.ents
  old : ReadsInt w .i64 Ao m.old.length m.old
  new : ReadsInt w .i64 An m.new.length m.new
  lt : m.terms.length ≤ 1000
  le : m.ents.length ≤ 200
  lo : m.old.length ≤ 1000
  ln : m.new.length ≤ 1000
  few : ∀ x ∈ m.ents, x.data.size ≤ 400 ∧ x.mem.length ≤ 100
def msgO (m : Msg) (At Ae Ao An : Option Addr) (ct ce co cn : Nat) : Obj := .cells #[.int .i64 m.fr, .int .i64 m.tto, .int .i64 m.gen, .int .i64 m.kd, .int .i64 m.term, .int .i64 m.index, .int .i64 m.last, .int .i64 m.commit, .bool m.yes, .slice At m.terms.length ct, .slice Ae m.ents.length ce, .slice Ao m.old.length co, .slice An m.new.length cn] 32 (0, 0)
def msgV (m : Msg) (At Ae Ao An : Option Addr) (ct ce co cn : Nat) : Value := .agg #[.int .i64 m.fr, .int .i64 m.tto, .int .i64 m.gen, .int .i64 m.kd, .int .i64 m.term, .int .i64 m.index, .int .i64 m.last, .int .i64 m.commit, .bool m.yes, .slice At m.terms.length ct, .slice Ae m.ents.length ce, .slice Ao m.old.length co, .slice An m.new.length cn]
theorem lit_ints' {W : World} {n : Nat} (hn : n = W.heap.size) (xs : List Int) (h : xs.length ≤ 9223372036854775807) : ReadsInt (W.alloc (.cells (nums .i64 xs).toArray 3)) .i64 (some ⟨n, 0, none⟩) xs.length xs := by
  subst hn; exact lit_ints W xs h
theorem hlen4 {w : World} {base b : Nat} {F : Nat → Prop} {bs : List Int} {y er : Int} {l : List Int} (_ : RowAt w base F b (bs ++ [y]) er) (h : bs.length ≤ 100000) (hs : l.length ≤ 1000) : (bs ++ [y]).length + 8 * l.length ≤ 900000 := by
  rw [List.length_append, List.length_singleton]; omega
theorem hlen5 {bs ys : List Int} {n : Nat} (hy : ys.length = 1 + 8 * n) (h : bs.length + 8 * n ≤ 900000) (hs : n ≤ 1000) : (bs ++ ys).length ≤ 1000000 := by
  rw [List.length_append]; omega
set_option maxRecDepth 100000 in
set_option maxHeartbeats 4000000 in
theorem encMsg_any (m : Msg) (At Ae Ao An : Option Addr) (ct ce co cn : Nat) (w : World) (hg0 : Laid w) (hm : MsgIs w m At Ae Ao An) :
    Calls Tryd.prog 9 #[msgV m At Ae Ao An ct ce co cn] w fun r w' => Told w (msgB m) (msgE m) r w' := by
  have HS := Lib.hid (show BoxSt w (msgO m At Ae Ao An ct ce co cn) ((w.alloc (msgO m At Ae Ao An ct ce co cn)).alloc (.cells #[.slice none 0 0, .nilIface] 70)) (fun k => k = w.heap.size + 1) (w.heap.size + 1) w.heap.size [] 0 from
    ⟨at_fresh (by simp) ((Below.refl w.heap.size w).alloc (Nat.le_refl _) _), blk_alloc (heap_alloc_new w _) _, by show ¬ (w.heap.size = w.heap.size + 1); omega⟩)
  have HM := Lib.hid hm
  have HG := Lib.hid hg0
  have hb := hm.lt
  have hb2 := hm.le
  have hb3 := hm.lo
  have hb4 := hm.ln
  clear hm hg0
  obtain ⟨fr, tto, gen, kd, term, index, last, commit, yes, terms, ents, old, new⟩ := m
  unfold msgV
  unfold msgO at HS
  dsimp only at HS hb hb2 hb3 hb4 ⊢
  have he : ∀ x, orE 0 x = x := fun _ => rfl
  obtain ⟨Y, hY⟩ : ∃ Y, Y = yes := ⟨_, rfl⟩
  cases yes
  all_goals
    have HY := Lib.hid hY
    clear hY
    go_enter Tryd.func9, Tryd.ntmps9
    go_wp2_with (first
      | (have hx2 := S2.out
         go_at_call 29
         refine (int_any (some ⟨w2.heap.size, 0, none⟩) 4 [term, index, last, commit] _ _ _ F2 _ _ (hx2.alloc _).at_.row (lit_ints w2 [term, index, last, commit] (show 4 ≤ 9223372036854775807 by decide)) (fun _ a e => by injection e with e; subst e; exact fun hf => by have := (S2.out.at_.row.2.1 _ hf).2; simp at this) hl2).mono ?_
         rintro r w3 ⟨rfl, h3⟩
         obtain ⟨F3, hs⟩ := (S2.out.alloc _).step h3
         have q8 : w3.cell? ⟨w.heap.size, 8, none⟩ = some (.bool _) := blk_cell hs.box 8
         have hl3 : ([fr, tto, gen].flatMap int8 ++ [kd % 256] ++ [term, index, last, commit].flatMap int8).length ≤ 100000 := by simp only [List.length_append, int8_flat, int8_length, bytesOf_length, List.length_cons, List.length_nil]; omega
         have S3 := Lib.hid hs
         clear h3 hs)
      | (go_at_call 29
         refine (int_any (some ⟨w.heap.size + 1 + 1, 0, none⟩) 3 [fr, tto, gen] _ _ _ _ [] 0 (HS.out.alloc _).at_.row (lit_ints' (by simp) [fr, tto, gen] (show 3 ≤ 9223372036854775807 by decide)) (fun _ a e => by injection e with e; subst e; show ¬ (w.heap.size + 1 + 1 = w.heap.size + 1); omega) (show 0 + 8 * 3 ≤ 1000000 by decide)).mono ?_
         rintro r w1 ⟨rfl, h1⟩
         obtain ⟨F1, hs⟩ := (HS.out.alloc _).step h1
         rw [List.nil_append] at hs
         have q3 : w1.cell? ⟨w.heap.size, 3, none⟩ = some (.int .i64 kd) := blk_cell hs.box 3
         have hl1 : ([fr, tto, gen].flatMap int8).length ≤ 1000000 := by simp only [List.length_append, int8_flat, int8_length, bytesOf_length, List.length_cons, List.length_nil]; omega
         have S1 := Lib.hid hs
         clear h1 hs)
      | (go_at_call 30
         refine (kinds_any _ kd 1 15 w1 _ _ F1 _ _ S1.out.at_.row hl1).mono ?_
         rintro r w2 ⟨rfl, h2⟩
         obtain ⟨F2, hs⟩ := S1.out.step h2
         rw [he] at hs
         have q4 : w2.cell? ⟨w.heap.size, 4, none⟩ = some (.int .i64 term) := blk_cell hs.box 4
         have q5 : w2.cell? ⟨w.heap.size, 5, none⟩ = some (.int .i64 index) := blk_cell hs.box 5
         have q6 : w2.cell? ⟨w.heap.size, 6, none⟩ = some (.int .i64 last) := blk_cell hs.box 6
         have q7 : w2.cell? ⟨w.heap.size, 7, none⟩ = some (.int .i64 commit) := blk_cell hs.box 7
         have hl2 : ([fr, tto, gen].flatMap int8 ++ [kd % 256]).length + 8 * [term, index, last, commit].length ≤ 1000000 := by simp only [List.length_append, int8_flat, int8_length, bytesOf_length, List.length_cons, List.length_nil]; omega
         have S2 := Lib.hid hs
         clear h2 hs)
      | (go_at_call 31
         refine (byte_any _ w3 _ _ F3 _ _ S3.out.at_.row (Nat.le_trans hl3 (by decide))).mono ?_
         rintro r w4 ⟨rfl, h4⟩
         obtain ⟨F4, hs⟩ := S3.out.step h4
         have q9 : w4.cell? ⟨w.heap.size, 9, none⟩ = some (.slice At terms.length ct) := blk_cell hs.box 9
         have hl4 := hlen4 hs.at_.row hl3 (show terms.length ≤ 1000 from hb)
         have S4 := Lib.hid hs
         clear h4 hs)
      | (go_at_call 32
         go_loud (refine (ints_any At ct terms 64 w4 _ _ F4 _ _ S4.out.at_.row (HM.out.terms.below S4.out.at_.below) (S4.out.at_.away HM.out.terms) hl4).mono ?_)
         rintro r w5 ⟨rfl, h5⟩
         obtain ⟨F5, hs⟩ := S4.out.step h5
         have q10 : w5.cell? ⟨w.heap.size, 10, none⟩ = some (.slice Ae ents.length ce) := blk_cell hs.box 10
         have hl5 := hlen5 (ys := [(terms.length : Int) % 256] ++ terms.flatMap int8) (n := terms.length) (by simp only [List.length_append, List.length_singleton, int8_flat]) hl4 (show terms.length ≤ 1000 from hb)
         have S5 := Lib.hid hs
         clear h5 hs)
      | (go_at_call 33
         refine (many_any _ _ 64 w5 _ _ F5 _ _ S5.out.at_.row hl5).mono ?_
         rintro r w6 ⟨rfl, h6⟩
         obtain ⟨F6, hs⟩ := S5.out.step h6
         have q10' : w6.cell? ⟨w.heap.size, 10, none⟩ = some (.slice Ae ents.length ce) := blk_cell hs.box 10
         have hlB : ([fr, tto, gen].flatMap int8 ++ [kd % 256] ++ [term, index, last, commit].flatMap int8 ++ [yesI Y % 256] ++ ([(terms.length : Int) % 256] ++ terms.flatMap int8) ++ [(ents.length : Int) % 256]).length ≤ 20000 := by simp only [List.length_append, int8_flat, int8_length, bytesOf_length, List.length_cons, List.length_nil]; omega
         obtain ⟨B0, hB0⟩ : ∃ B, B = msgH ⟨fr, tto, gen, kd, term, index, last, commit, Y, terms, ents, old, new⟩ := ⟨_, rfl⟩
         obtain ⟨E0, hE0⟩ : ∃ E, E = msgHE ⟨fr, tto, gen, kd, term, index, last, commit, Y, terms, ents, old, new⟩ := ⟨_, rfl⟩
         have S6 := Lib.hid (show BoxSt w _ w6 _ (w.heap.size + 1) w.heap.size B0 E0 by rw [hB0, hE0, HY.out]; exact hs)
         have hlB : B0.length ≤ 20000 := by rw [hB0]; exact hlB
         have HB0 := Lib.hid hB0
         have HE0 := Lib.hid hE0
         clear h6 hs hB0 hE0))
    go_loopw [7, 51] (fun _ iv wr => ∃ k : Nat, k ≤ ents.length ∧ iv = .int .i64 k ∧ ∃ F, BoxSt w (msgO ⟨fr, tto, gen, kd, term, index, last, commit, Y, terms, ents, old, new⟩ At Ae Ao An ct ce co cn) wr F (w.heap.size + 1) w.heap.size (B0 ++ (ents.take k).flatMap entB) (entsE E0 (ents.take k))) (fun _ iv _ => ents.length - (intOf iv).toNat)
    case atStart => exact ⟨0, by omega, rfl, _, by have h := S6.out; rw [HY.out]; simpa [entsE, msgO] using h⟩
    case round =>
      obtain ⟨k, hk, rfl, F, hs⟩ := hrel
      have HS7 := Lib.hid hs
      have hBr : Below w.heap.size w wr := hs.at_.below
      have hsb := hs.box
      rw [HY.out] at hsb
      have q11 : wr.cell? ⟨w.heap.size, 11, none⟩ = some (.slice Ao old.length co) := blk_cell hsb 11
      have q12 : wr.cell? ⟨w.heap.size, 12, none⟩ = some (.slice An new.length cn) := blk_cell hsb 12
      have hlk : ((ents.take k).flatMap entB).length ≤ 250000 := by
        have h1 := ents_length (ents.take k) (fun x hx => HM.out.few x (List.mem_of_mem_take hx))
        have h2 : (ents.take k).length ≤ 200 := by rw [List.length_take]; omega
        omega
      clear hs hsb
      by_cases hlt : k < ents.length
      · obtain ⟨x, hx⟩ : ∃ x, ents[k]? = some x := ⟨_, List.getElem?_eq_getElem hlt⟩
        obtain ⟨ad, rfl, hE⟩ := entAt_of HM.out.ents hx
        have hmem := List.mem_of_getElem? hx
        obtain ⟨hd4, hm1⟩ := HM.out.few x hmem
        obtain ⟨Ax, cx, p0, p1, p2, p3, p4, p5, p6, p7⟩ := hE
        have q0 := pw_cell_below hBr p0
        have q1 := pw_cell_below hBr p1
        have q2 := pw_cell_below hBr p2
        have q3 := pw_cell_below hBr p3
        have q4 := pw_cell_below hBr p4
        have q5 := pw_cell_below hBr p5
        have HX := Lib.hid hx
        have HP := Lib.hid p7
        have hlt' : (k : Int) < (ents.length : Int) := by omega
        have hk0 : (0 : Int) ≤ (k : Int) := by omega
        have hlx : (B0 ++ (ents.take k).flatMap entB).length + x.data.size + 8 * x.mem.length ≤ 700000 := by rw [List.length_append]; omega
        generalize hea : ad.add (k * 6) = ea at *
        clear hx hmem p0 p1 p2 p3 p4 p5 p6 p7 hBr q11 q12
        go_wp2_with (go_at_call 27
                     refine (entry_any w _ F _ _ _ x Ax cx (HS7.out.alloc _).at_ HP.out hlx).mono ?_
                     rintro r w8 ⟨rfl, h8⟩
                     obtain ⟨F8, hs⟩ := (HS7.out.alloc _).step h8
                     have S8 := Lib.hid hs
                     clear h8 hs)
        exact ⟨⟨k + 1, by omega, by simp, F8, by rw [take_get HX.out, List.flatMap_append, ← List.append_assoc, entsE, List.foldl_append]; have h := S8.out; simpa [entsE] using h⟩, by simp [intOf]; omega⟩
      · obtain rfl : k = ents.length := by omega
        rw [List.take_length] at HS7 hlk
        have hlc : (B0 ++ ents.flatMap entB).length + 8 * old.length + 8 * new.length ≤ 800000 := by rw [List.length_append]; omega
        clear hBr
        go_wp2_with (first
          | (go_at_call 34
             refine (config_any w wr F _ _ _ Ao An co cn old new HS7.out.at_ HM.out.old HM.out.new hlc).mono ?_
             rintro r w9 ⟨rfl, h9⟩
             obtain ⟨F9, hs⟩ := HS7.out.step h9
             have S9 := Lib.hid hs
             clear h9 hs)
          | (go_at_call 28
             refine (told_any w9 _ _ F9 _ _ (HG.out.below S9.out.at_.below) S9.out.at_.row).mono ?_
             rintro r w10 ⟨v, rfl, hB, ho, hn⟩
             have H10 := Lib.hid (told_of S9.out.at_ hB ho hn)
             clear hB ho hn))
        go_ret2
        have h := H10.out
        have e1 : B0 ++ ents.flatMap entB ++ ([(old.length : Int) % 256] ++ old.flatMap int8) ++ ([(new.length : Int) % 256] ++ new.flatMap int8) = msgB ⟨fr, tto, gen, kd, term, index, last, commit, Y, terms, ents, old, new⟩ := by rw [HB0.out]; rfl
        have e2 : orE (orE (entsE E0 ents) (manyE old.length 9)) (manyE new.length 9) = msgE ⟨fr, tto, gen, kd, term, index, last, commit, Y, terms, ents, old, new⟩ := by rw [HE0.out]; rfl
        rw [HY.out] at e1 e2
        rw [e1, e2] at h
        rw [e2]
        exact h
end Go.Proofs.YtkdlghbfplhkpaaDoor
