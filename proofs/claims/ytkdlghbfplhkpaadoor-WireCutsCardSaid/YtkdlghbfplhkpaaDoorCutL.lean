/- WireCuts. -/
import Derived.Test.YtkdlghbfplhkpaaDoorGodC
import Derived.Test.YtkdlghbfplhkpaaDoorRdH
import Derived.Deep.RegionHeld3
set_option linter.unusedVariables false
set_option linter.unusedSimpArgs false
namespace Go.Proofs.YtkdlghbfplhkpaaDoor
open Go.RowKit Go.Proofs.YtkdlghbfplhkpaaDoorW.PrintWords Go.Proofs.Mine

/-- A message and an entry such as may be written, in their blocks. -/
structure CutSt (w : World) (g2 g3 : Nat) (At Ao An : Option Addr) (ct co cn : Nat) (m : Msg) (Ae : Option Addr) (ce : Nat) (y : Eh) (W : World) : Prop where
  b2 : W.heap[g2]? = some (.cells #[.int .i64 m.fr, .int .i64 m.tto, .int .i64 m.gen, .int .i64 m.kd, .int .i64 m.term, .int .i64 m.index, .int .i64 m.last, .int .i64 m.commit, .bool m.yes, .slice At m.terms.length ct, .slice Ae m.ents.length ce, .slice Ao m.old.length co, .slice An m.new.length cn] 32 (0, 0))
  b3 : W.heap[g3]? = some (.cells #[.int .i64 y.kd, .int .i64 y.c, .int .i64 y.q, .string y.data, .slice y.A y.mem.length y.cap, .int .i64 y.dst] 27 (0, 0))
  below : Below w.heap.size w W
  rm : ∀ W', Keep (fun k => k = g2 ∨ k = g3) W W' → MsgR W' m At Ae Ao An
  kd : 1 ≤ m.kd ∧ m.kd ≤ 15
  ne : m.ents.length ≤ 64 ∧ m.ents.length ≤ ce
  few : ∀ x ∈ m.ents, entE x = 0 ∧ x.data.size ≤ 16 ∧ x.mem.length ≤ 9
  nt : m.terms.length ≤ 64 ∧ m.terms.length ≤ ct
  no : m.old.length ≤ 9
  nn : m.new.length ≤ 9
  ey : entE y.e = 0 ∧ y.data.size ≤ 16 ∧ y.mem.length ≤ 9 ∧ y.mem.length ≤ y.cap
  ry : ReadsInt w .i64 y.A y.mem.length y.mem
theorem CutSt.zero {w W : World} {g2 g3 : Nat} {At Ao An : Option Addr} {ct co cn : Nat} {m : Msg} {Ae : Option Addr} {ce : Nat} {y : Eh} (h : CutSt w g2 g3 At Ao An ct co cn m Ae ce y W) : msgE m = 0 := msgE_zero h.kd h.nt.1 h.ne.1 (fun x hx => (h.few x hx).1) h.no h.nn
theorem MsgR.take_ents {W : World} {m : Msg} {At Ae Ao An : Option Addr} (h : MsgR W m At Ae Ao An) (k : Nat) (hk : k ≤ m.ents.length) : MsgR W { m with ents := m.ents.take k } At Ae Ao An :=
  ⟨h.terms, by
    have h1 := Kd.C_take h.ents hk
    have e : (m.ents.take k).length = k := by rw [List.length_take]; omega
    exact h1, h.old, h.new⟩
theorem MsgR.take_terms {W : World} {m : Msg} {At Ae Ao An : Option Addr} (h : MsgR W m At Ae Ao An) (k : Nat) (hk : k ≤ m.terms.length) : MsgR W { m with terms := m.terms.take k } At Ae Ao An :=
  ⟨by
    have e : (m.terms.take k).length = k := by rw [List.length_take]; omega
    show ReadsInt W .i64 At (m.terms.take k).length (m.terms.take k)
    rw [e]
    exact takeI h.terms k hk, h.ents, h.old, h.new⟩
theorem CutSt.drop_ents {w W : World} {g2 g3 : Nat} {At Ao An : Option Addr} {ct co cn : Nat} {m : Msg} {Ae : Option Addr} {ce : Nat} {y : Eh} (h : CutSt w g2 g3 At Ao An ct co cn m Ae ce y W) (h23 : g3 ≠ g2) (hw : w.heap.size ≤ g2) (hn : 3 < m.ents.length) : CutSt w g2 g3 At Ao An ct co cn { m with ents := m.ents.take 3 } Ae ce y (W.setCell ⟨g2, 10, none⟩ (.slice Ae 3 ce)) := by
  have hk : Keep (fun k => k = g2) W (W.setCell ⟨g2, 10, none⟩ (.slice Ae 3 ce)) := (Keep.refl (fun k => k = g2) W).setCell ⟨g2, 10, none⟩ _ (.inl rfl)
  have hB := h.below.trans (hk.to_below h.below.size (fun k hk => by have e : k = g2 := hk; rw [e]; exact hw))
  have e : (m.ents.take 3).length = 3 := by rw [List.length_take]; omega
  have hne := h.ne
  refine ⟨?_, hk.blk h.b3 (fun e => h23 e), hB, fun W' hW' => ?_, h.kd, ?_, fun x hx => h.few x (List.mem_of_mem_take hx), h.nt, h.no, h.nn, h.ey, h.ry⟩
  · show _ = some (Obj.cells #[.int .i64 m.fr, .int .i64 m.tto, .int .i64 m.gen, .int .i64 m.kd, .int .i64 m.term, .int .i64 m.index, .int .i64 m.last, .int .i64 m.commit, .bool m.yes, .slice At m.terms.length ct, .slice Ae (m.ents.take 3).length ce, .slice Ao m.old.length co, .slice An m.new.length cn] 32 (0, 0))
    rw [e]
    exact blk_set h.b2 10 _
  · exact (h.rm W' ((hk.mono (G := fun k => k = g2 ∨ k = g3) (fun k h _ => .inl h)).trans hW' (fun _ h => .inl h))).take_ents 3 (by omega)
  · show (m.ents.take 3).length ≤ 64 ∧ (m.ents.take 3).length ≤ ce
    omega
theorem CutSt.drop_terms {w W : World} {g2 g3 : Nat} {At Ao An : Option Addr} {ct co cn : Nat} {m : Msg} {Ae : Option Addr} {ce : Nat} {y : Eh} (h : CutSt w g2 g3 At Ao An ct co cn m Ae ce y W) (h23 : g3 ≠ g2) (hw : w.heap.size ≤ g2) (hn : 5 < m.terms.length) : CutSt w g2 g3 At Ao An ct co cn { m with terms := m.terms.take 5 } Ae ce y (W.setCell ⟨g2, 9, none⟩ (.slice At 5 ct)) := by
  have hk : Keep (fun k => k = g2) W (W.setCell ⟨g2, 9, none⟩ (.slice At 5 ct)) := (Keep.refl (fun k => k = g2) W).setCell ⟨g2, 9, none⟩ _ (.inl rfl)
  have hB := h.below.trans (hk.to_below h.below.size (fun k hk => by have e : k = g2 := hk; rw [e]; exact hw))
  have e : (m.terms.take 5).length = 5 := by rw [List.length_take]; omega
  have hnt := h.nt
  refine ⟨?_, hk.blk h.b3 (fun e => h23 e), hB, fun W' hW' => ?_, h.kd, h.ne, h.few, ?_, h.no, h.nn, h.ey, h.ry⟩
  · show _ = some (Obj.cells #[.int .i64 m.fr, .int .i64 m.tto, .int .i64 m.gen, .int .i64 m.kd, .int .i64 m.term, .int .i64 m.index, .int .i64 m.last, .int .i64 m.commit, .bool m.yes, .slice At (m.terms.take 5).length ct, .slice Ae m.ents.length ce, .slice Ao m.old.length co, .slice An m.new.length cn] 32 (0, 0))
    rw [e]
    exact blk_set h.b2 9 _
  · exact (h.rm W' ((hk.mono (G := fun k => k = g2 ∨ k = g3) (fun k h _ => .inl h)).trans hW' (fun _ h => .inl h))).take_terms 5 (by omega)
  · show (m.terms.take 5).length ≤ 64 ∧ (m.terms.take 5).length ≤ ct
    omega
theorem CutSt.msg {w W : World} {g2 g3 : Nat} {At Ao An : Option Addr} {ct co cn : Nat} {m : Msg} {Ae : Option Addr} {ce : Nat} {y : Eh} (h : CutSt w g2 g3 At Ao An ct co cn m Ae ce y W) : MsgIs W m At Ae Ao An := by
  have r := h.rm W (Keep.refl _ _)
  have h1 := h.nt
  have h2 := h.ne
  have h3 := h.no
  have h4 := h.nn
  exact ⟨r.terms, r.ents, r.old, r.new, by omega, by omega, by omega, by omega, fun x hx => by have := h.few x hx; omega⟩
theorem CutSt.to {w W W1 : World} {g2 g3 : Nat} {At Ao An : Option Addr} {ct co cn : Nat} {m : Msg} {Ae : Option Addr} {ce : Nat} {y : Eh} (h : CutSt w g2 g3 At Ao An ct co cn m Ae ce y W) (hB : Below W.heap.size W W1) : CutSt w g2 g3 At Ao An ct co cn m Ae ce y W1 :=
  ⟨blk_below h.b2 hB, blk_below h.b3 hB, h.below.trans (hB.mono h.below.size), fun W' hW' => h.rm W' ((Keep.of_below hB _).trans hW' (fun _ h => .inl h)), h.kd, h.ne, h.few, h.nt, h.no, h.nn, h.ey, h.ry⟩
/-- The two are stored in their blocks. -/
theorem CutSt.start {w W6 : World} {g2 g3 : Nat} {At Ao An : Option Addr} {ct co cn : Nat} {m : Msg} {Ae : Option Addr} {ce : Nat} {y : Eh} {o2 o3 : Array Value} (h32 : g3 ≠ g2) (hw2 : w.heap.size ≤ g2) (hw3 : w.heap.size ≤ g3) (hB : Below w.heap.size w W6) (h2 : W6.heap[g2]? = some (.cells o2 32 (0, 0))) (s2 : o2.size = 13) (h3 : W6.heap[g3]? = some (.cells o3 27 (0, 0))) (s3 : o3.size = 6)
    (rm : ∀ W', Keep (fun k => k = g2 ∨ k = g3) W6 W' → MsgR W' m At Ae Ao An) (kd : 1 ≤ m.kd ∧ m.kd ≤ 15) (ne : m.ents.length ≤ 64 ∧ m.ents.length ≤ ce) (few : ∀ x ∈ m.ents, entE x = 0 ∧ x.data.size ≤ 16 ∧ x.mem.length ≤ 9) (nt : m.terms.length ≤ 64 ∧ m.terms.length ≤ ct) (no : m.old.length ≤ 9) (nn : m.new.length ≤ 9) (ey : entE y.e = 0 ∧ y.data.size ≤ 16 ∧ y.mem.length ≤ 9 ∧ y.mem.length ≤ y.cap) (ry : ReadsInt w .i64 y.A y.mem.length y.mem) :
    CutSt w g2 g3 At Ao An ct co cn m Ae ce y ((W6.setCells g2 0 [.int .i64 m.fr, .int .i64 m.tto, .int .i64 m.gen, .int .i64 m.kd, .int .i64 m.term, .int .i64 m.index, .int .i64 m.last, .int .i64 m.commit, .bool m.yes, .slice At m.terms.length ct, .slice Ae m.ents.length ce, .slice Ao m.old.length co, .slice An m.new.length cn]).setCells g3 0 [.int .i64 y.kd, .int .i64 y.c, .int .i64 y.q, .string y.data, .slice y.A y.mem.length y.cap, .int .i64 y.dst]) := by
  obtain ⟨c2, a1, a2, a3⟩ := setCells_blk [.int .i64 m.fr, .int .i64 m.tto, .int .i64 m.gen, .int .i64 m.kd, .int .i64 m.term, .int .i64 m.index, .int .i64 m.last, .int .i64 m.commit, .bool m.yes, .slice At m.terms.length ct, .slice Ae m.ents.length ce, .slice Ao m.old.length co, .slice An m.new.length cn] 0 W6 o2 h2 (by rw [s2]; exact Nat.le_refl 13)
  have k2 := Keep.setCells (F := fun k => k = g2) g2 [.int .i64 m.fr, .int .i64 m.tto, .int .i64 m.gen, .int .i64 m.kd, .int .i64 m.term, .int .i64 m.index, .int .i64 m.last, .int .i64 m.commit, .bool m.yes, .slice At m.terms.length ct, .slice Ae m.ents.length ce, .slice Ao m.old.length co, .slice An m.new.length cn] 0 _ (Keep.refl (fun k => k = g2) W6) (.inl rfl)
  obtain ⟨c3, b1, b2, b3⟩ := setCells_blk [.int .i64 y.kd, .int .i64 y.c, .int .i64 y.q, .string y.data, .slice y.A y.mem.length y.cap, .int .i64 y.dst] 0 _ o3 (k2.blk h3 (fun e => h32 e)) (by rw [s3]; exact Nat.le_refl 6)
  have k3 := Keep.setCells (F := fun k => k = g3) g3 [.int .i64 y.kd, .int .i64 y.c, .int .i64 y.q, .string y.data, .slice y.A y.mem.length y.cap, .int .i64 y.dst] 0 _ (Keep.refl (fun k => k = g3) (W6.setCells g2 0 [.int .i64 m.fr, .int .i64 m.tto, .int .i64 m.gen, .int .i64 m.kd, .int .i64 m.term, .int .i64 m.index, .int .i64 m.last, .int .i64 m.commit, .bool m.yes, .slice At m.terms.length ct, .slice Ae m.ents.length ce, .slice Ao m.old.length co, .slice An m.new.length cn])) (.inl rfl)
  have hc2 : c2 = #[.int .i64 m.fr, .int .i64 m.tto, .int .i64 m.gen, .int .i64 m.kd, .int .i64 m.term, .int .i64 m.index, .int .i64 m.last, .int .i64 m.commit, .bool m.yes, .slice At m.terms.length ct, .slice Ae m.ents.length ce, .slice Ao m.old.length co, .slice An m.new.length cn] := by
    apply Array.toList_inj.1
    rw [a3, List.drop_of_length_le (by rw [Array.length_toList, s2]; exact Nat.le_refl 13)]
    rfl
  have hc3 : c3 = #[.int .i64 y.kd, .int .i64 y.c, .int .i64 y.q, .string y.data, .slice y.A y.mem.length y.cap, .int .i64 y.dst] := by
    apply Array.toList_inj.1
    rw [b3, List.drop_of_length_le (by rw [Array.length_toList, s3]; exact Nat.le_refl 6)]
    rfl
  subst hc2 hc3
  have kk : Keep (fun k => k = g2 ∨ k = g3) W6 ((W6.setCells g2 0 [.int .i64 m.fr, .int .i64 m.tto, .int .i64 m.gen, .int .i64 m.kd, .int .i64 m.term, .int .i64 m.index, .int .i64 m.last, .int .i64 m.commit, .bool m.yes, .slice At m.terms.length ct, .slice Ae m.ents.length ce, .slice Ao m.old.length co, .slice An m.new.length cn]).setCells g3 0 [.int .i64 y.kd, .int .i64 y.c, .int .i64 y.q, .string y.data, .slice y.A y.mem.length y.cap, .int .i64 y.dst]) := ((k2.mono (G := fun k => k = g2 ∨ k = g3) (fun k h _ => .inl h)).trans (k3.mono (G := fun k => k = g2 ∨ k = g3) (fun k h _ => .inr h)) (fun _ h => .inl h))
  have f2 := k3.blk a1 (fun e => h32 e.symm)
  have f3 := b1
  clear k3 b1 a1 k2 a3 b3
  generalize (W6.setCells g2 0 [.int .i64 m.fr, .int .i64 m.tto, .int .i64 m.gen, .int .i64 m.kd, .int .i64 m.term, .int .i64 m.index, .int .i64 m.last, .int .i64 m.commit, .bool m.yes, .slice At m.terms.length ct, .slice Ae m.ents.length ce, .slice Ao m.old.length co, .slice An m.new.length cn]).setCells g3 0 [.int .i64 y.kd, .int .i64 y.c, .int .i64 y.q, .string y.data, .slice y.A y.mem.length y.cap, .int .i64 y.dst] = Wf at f2 f3 kk ⊢
  exact ⟨f2, f3, hB.trans (kk.to_below hB.size (fun k hk => by rcases hk with e | e <;> rw [e] <;> assumption)), fun W' hW' => rm W' (kk.trans hW' (fun _ h => .inl h)), kd, ne, few, nt, no, nn, ey, ry⟩
theorem byt_int8 (n : Int) : Byt (int8 n) := fun x hx => by
  unfold int8 by8 at hx
  obtain ⟨j, _, rfl⟩ := List.mem_map.1 hx
  omega
theorem byt_flat (l : List Int) : Byt (l.flatMap int8) := fun x hx => by
  obtain ⟨a, _, h⟩ := List.mem_flatMap.1 hx
  exact byt_int8 a x h
theorem byt_one (n : Int) : Byt [n % 256] := fun x hx => by
  rw [List.mem_singleton.1 hx]
  omega
theorem byt_data (d : ByteArray) : Byt (bytesOf d) := fun x hx => by
  unfold bytesOf at hx
  obtain ⟨b, _, rfl⟩ := List.mem_map.1 hx
  have := b.toNat_lt
  omega
theorem byt_ent (x : Ent) : Byt (entB x) := ((((byt_one _).append ((byt_int8 _).append (byt_int8 _))).append ((byt_one _).append (byt_data _))).append ((byt_one _).append (byt_flat _))).append (byt_one _)
theorem byt_msg (m : Msg) : Byt (msgB m) := by
  have h1 : Byt (m.ents.flatMap entB) := fun x hx => by
    obtain ⟨a, _, h⟩ := List.mem_flatMap.1 hx
    exact byt_ent a x h
  exact ((((((((byt_flat _).append (byt_one _)).append (byt_flat _)).append (byt_one _)).append ((byt_one _).append (byt_flat _))).append (byt_one _)).append h1).append ((byt_one _).append (byt_flat _))).append ((byt_one _).append (byt_flat _))
theorem cut_msg {m : Msg} (hz : msgE m = 0) (w : World) (A : Option Addr) (c k : Nat) (hk : k < (msgB m).length) (hl : (msgB m).length ≤ 100000000) (hr : ReadsInt w .u8 A (msgB m).length (msgB m)) (hg : Laid w) (h0 : 0 < w.heap.size) :
    Calls Tryd.prog 15 #[.slice A k c] w (GotMsg w 8 msg0) := by
  have e : ((msgB m).take k).length = k := by rw [List.length_take]; omega
  have h := parseMsg_any w A c ((msgB m).take k) ((byt_msg m).take k) (by rw [e]; exact take_reads hr k (by omega)) (by rw [e]; omega) hg h0
  rw [e, (rds_msg hz).front hk] at h
  exact h
theorem cut_ent {x : Ent} (hz : entE x = 0) (w : World) (A : Option Addr) (c k : Nat) (hk : k < (entB x).length) (hl : (entB x).length ≤ 100000000) (hr : ReadsInt w .u8 A (entB x).length (entB x)) (hg : Laid w) (h0 : 0 < w.heap.size) :
    Calls Tryd.prog 16 #[.slice A k c] w (GotEnt w 8 ent0) := by
  have e : ((entB x).take k).length = k := by rw [List.length_take]; omega
  have h := parseEntry_any w A c ((entB x).take k) ((byt_ent x).take k) (by rw [e]; exact take_reads hr k (by omega)) (by rw [e]; omega) hg h0
  rw [e, (rds_ent hz).front hk] at h
  exact h
theorem more_msg {m : Msg} (hz : msgE m = 0) (w : World) (A : Option Addr) (c n : Nat) (hn : n = (msgB m ++ [0]).length) (hl : (msgB m).length ≤ 10000000) (hr : ReadsInt w .u8 A n (msgB m ++ [0])) (hg : Laid w) (h0 : 0 < w.heap.size) :
    Calls Tryd.prog 15 #[.slice A n c] w (GotMsg w 9 msg0) := by
  subst hn
  have h := parseMsg_any w A c (msgB m ++ [0]) ((byt_msg m).append (fun x hx => by rw [List.mem_singleton.1 hx]; decide)) hr (by rw [List.length_append, List.length_singleton]; omega) hg h0
  rw [(rds_msg hz).more 0] at h
  exact h
theorem more_ent {x : Ent} (hz : entE x = 0) (w : World) (A : Option Addr) (c n : Nat) (hn : n = (entB x ++ [0]).length) (hl : (entB x).length ≤ 10000000) (hr : ReadsInt w .u8 A n (entB x ++ [0])) (hg : Laid w) (h0 : 0 < w.heap.size) :
    Calls Tryd.prog 16 #[.slice A n c] w (GotEnt w 9 ent0) := by
  subst hn
  have h := parseEntry_any w A c (entB x ++ [0]) ((byt_ent x).append (fun x hx => by rw [List.mem_singleton.1 hx]; decide)) hr (by rw [List.length_append, List.length_singleton]; omega) hg h0
  rw [(rds_ent hz).more 0] at h
  exact h
theorem own_reads' {w : World} {base n : Nat} {A : Option Addr} {c : Nat} {xs : List Int} (h : w.ownsRow base 5 1 (.slice A n c) n (nums .u8 xs)) : ReadsInt w .u8 A n xs := by
  obtain ⟨A', c', he, hr⟩ := own_reads h
  injection he with h1 _ h3
  subst h1 h3
  exact hr
theorem told_row {w w' : World} {bs : List Int} {r : Ending} (h : Told w bs 0 r w') : ∃ A c, r = .returned (.tuple #[.slice A bs.length c, .int .i64 0]) ∧ bs.length ≤ c ∧ w'.ownsRow w.heap.size 5 1 (.slice A bs.length c) bs.length (nums .u8 bs) ∧ Below w.heap.size w w' := by
  obtain ⟨v, rfl, hB, ho, _⟩ := h
  have ho' := ho rfl
  obtain ⟨A, c, rfl⟩ := own_slice ho'
  refine ⟨A, c, rfl, ?_, ho', hB⟩
  rcases ho'.2 with ⟨h, h2⟩ | ⟨g, cap, cur, h, _, _, h1, _⟩
  · rw [h2]; exact Nat.zero_le _
  · injection h with _ _ h3; omega
theorem msgB_small {m : Msg} (h1 : m.terms.length ≤ 64) (h2 : m.ents.length ≤ 64) (h3 : ∀ x ∈ m.ents, x.data.size ≤ 16 ∧ x.mem.length ≤ 9) (h4 : m.old.length ≤ 9) (h5 : m.new.length ≤ 9) : (msgB m).length ≤ 1000000 := by
  have h6 := ents_length m.ents (fun x hx => by have := h3 x hx; omega)
  unfold msgB msgH
  simp only [List.length_append, int8_flat, List.length_cons, List.length_nil]
  omega
theorem Norm.mk {R : Act → World → Prop} {a : Act} {w : World} (h : R a w) : Norm R .normal a w := h
def Rel (w : World) (g2 g3 : Nat) (At Ao An : Option Addr) (ct co cn : Nat) (W : World) : Prop := ∃ m Ae ce y, CutSt w g2 g3 At Ao An ct co cn m Ae ce y W
def Rel5 (w : World) (va vb : Value) (g2 g3 : Nat) (At Ao An : Option Addr) (ct co cn : Nat) (a : Act) (W : World) : Prop := ∃ (x19 x20 x21 x22 x23 x24 x25 x26 x27 x28 x29 x30 x31 x32 : Value), a = ⟨#[va, vb, .pointer (some ⟨g2, 0, none⟩), .pointer (some ⟨g3, 0, none⟩), .bool false, undef, undef, undef, undef, undef, undef, undef, undef, undef, undef, undef, undef, undef, undef, x19, x20, x21, x22, x23, x24, x25, x26, x27, x28, x29, x30, x31, x32, undef, undef, undef, undef, undef, undef, undef, undef, undef, undef, undef, undef, undef, undef, undef, undef, undef, undef, undef, undef, undef, undef, undef, undef, undef, undef, undef, undef, undef, undef, undef, undef, undef, undef, undef, undef, undef, undef, undef, undef, undef, undef, undef, undef, undef, undef, undef, undef, undef, undef, undef, undef, undef, undef, undef, undef, undef, undef, undef, undef, undef, undef, undef, undef, undef, undef, undef, undef, undef, undef, undef, undef, undef, undef, undef, undef, undef, undef, undef, undef, undef, undef, undef, undef, undef, undef], []⟩ ∧ Rel w g2 g3 At Ao An ct co cn W
def Rel7 (w : World) (va vb : Value) (g2 g3 : Nat) (At Ao An : Option Addr) (ct co cn : Nat) (a : Act) (W : World) : Prop := ∃ (x19 x20 x21 x22 x23 x24 x25 x26 x27 x28 x29 x30 x31 x32 x33 x34 x35 x36 x37 x38 x39 x40 : Value), a = ⟨#[va, vb, .pointer (some ⟨g2, 0, none⟩), .pointer (some ⟨g3, 0, none⟩), .bool false, undef, undef, undef, undef, undef, undef, undef, undef, undef, undef, undef, undef, undef, undef, x19, x20, x21, x22, x23, x24, x25, x26, x27, x28, x29, x30, x31, x32, x33, x34, x35, x36, x37, x38, x39, x40, undef, undef, undef, undef, undef, undef, undef, undef, undef, undef, undef, undef, undef, undef, undef, undef, undef, undef, undef, undef, undef, undef, undef, undef, undef, undef, undef, undef, undef, undef, undef, undef, undef, undef, undef, undef, undef, undef, undef, undef, undef, undef, undef, undef, undef, undef, undef, undef, undef, undef, undef, undef, undef, undef, undef, undef, undef, undef, undef, undef, undef, undef, undef, undef, undef, undef, undef, undef, undef, undef, undef, undef, undef, undef, undef, undef, undef, undef], []⟩ ∧ Rel w g2 g3 At Ao An ct co cn W
def Rel9 (w : World) (va vb : Value) (g2 g3 : Nat) (At Ao An : Option Addr) (ct co cn : Nat) (a : Act) (W : World) : Prop := ∃ (x19 x20 x21 x22 x23 x24 x25 x26 x27 x28 x29 x30 x31 x32 x33 x34 x35 x36 x37 x38 x39 x40 x41 x42 x43 x44 x45 x46 x47 x48 : Value), a = ⟨#[va, vb, .pointer (some ⟨g2, 0, none⟩), .pointer (some ⟨g3, 0, none⟩), .bool false, undef, undef, undef, undef, undef, undef, undef, undef, undef, undef, undef, undef, undef, undef, x19, x20, x21, x22, x23, x24, x25, x26, x27, x28, x29, x30, x31, x32, x33, x34, x35, x36, x37, x38, x39, x40, x41, x42, x43, x44, x45, x46, x47, x48, undef, undef, undef, undef, undef, undef, undef, undef, undef, undef, undef, undef, undef, undef, undef, undef, undef, undef, undef, undef, undef, undef, undef, undef, undef, undef, undef, undef, undef, undef, undef, undef, undef, undef, undef, undef, undef, undef, undef, undef, undef, undef, undef, undef, undef, undef, undef, undef, undef, undef, undef, undef, undef, undef, undef, undef, undef, undef, undef, undef, undef, undef, undef, undef, undef, undef, undef, undef, undef, undef], []⟩ ∧ Rel w g2 g3 At Ao An ct co cn W
set_option maxRecDepth 100000 in
set_option maxHeartbeats 4000000 in
theorem cuts_any (m : Msg) (At Ae Ao An : Option Addr) (ct ce co cn : Nat) (x : Ent) (Ax : Option Addr) (cx : Nat) (w : World) (hg : Laid w) (h0 : 0 < w.heap.size) (hm : MsgR w m At Ae Ao An) (h1 : m.terms.length ≤ ct) (h2 : m.old.length ≤ co) (h3 : m.new.length ≤ cn) (hx : ReadsInt w .i64 Ax x.mem.length x.mem) (hcx : x.mem.length ≤ cx) :
    Calls Tryd.prog 4 #[msgV m At Ae Ao An ct ce co cn, .agg #[.int .i64 x.kd, .int .i64 x.c, .int .i64 x.q, .string x.data, .slice Ax x.mem.length cx, .int .i64 x.dst]] w fun e w' => e = .returned (.bool true) ∧ Below w.heap.size w w' := by
  have HG := Lib.hid hg
  have H0 := Lib.hid h0
  have HM := Lib.hid hm
  have HX := Lib.hid hx
  have HC := Lib.hid (⟨h1, h2, h3, hcx⟩ : m.terms.length ≤ ct ∧ m.old.length ≤ co ∧ m.new.length ≤ cn ∧ x.mem.length ≤ cx)
  clear hg h0 hm hx h1 h2 h3 hcx
  obtain ⟨W1, hW⟩ : ∃ W1, W1 = (w.alloc (msgO m At Ae Ao An ct ce co cn)).alloc (.cells #[.int .i64 x.kd, .int .i64 x.c, .int .i64 x.q, .string x.data, .slice Ax x.mem.length cx, .int .i64 x.dst] 27 (0, 0)) := ⟨_, rfl⟩
  obtain ⟨g2, hg2⟩ : ∃ g, g = w.heap.size := ⟨_, rfl⟩
  obtain ⟨g3, hg3⟩ : ∃ g, g = w.heap.size + 1 := ⟨_, rfl⟩
  have hB1 : Below w.heap.size w W1 := by rw [hW]; exact ((Below.refl _ w).alloc (Nat.le_refl _) _).alloc (by simp) _
  have hb2 : W1.heap[g2]? = some (msgO m At Ae Ao An ct ce co cn) := by rw [hW, hg2]; exact blk_alloc (heap_alloc_new w _) _
  have hb3 : W1.heap[g3]? = some (.cells #[.int .i64 x.kd, .int .i64 x.c, .int .i64 x.q, .string x.data, .slice Ax x.mem.length cx, .int .i64 x.dst] 27 (0, 0)) := by rw [hW, hg3]; exact (by rw [show w.heap.size + 1 = (w.alloc (msgO m At Ae Ao An ct ce co cn)).heap.size from by simp]; exact heap_alloc_new _ _)
  have h32 : g3 ≠ g2 := by omega
  have HB1 := Lib.hid hB1
  have Hb2 := Lib.hid hb2
  have Hb3 := Lib.hid hb3
  have HG2 := Lib.hid hg2
  have HG3 := Lib.hid hg3
  have HW := Lib.hid hW
  clear hB1 hb2 hb3 hg2 hg3 hW
  unfold msgV msgO at *
  by_cases hfew : FewM m
  · by_cases hfx : (decide ((x.data.size : Int) < 300) && decide ((x.mem.length : Int) < 100)) = true
    · have HFX := Lib.hid hfx
      have HFM := Lib.hid hfew
      clear hfx hfew
      go_enter Tryd.func4, Tryd.ntmps4
      go_wp2_with (first
        | (go_at_call 12
           have hfl := few_lit x.kd x.c x.q x.data x.mem.length x.dst Ax cx w3
           rw [HFX.out] at hfl
           refine hfl.mono ?_
           rintro r w4 ⟨rfl, hB4⟩
           have HB4 := Lib.hid (HB2.out.trans ((HB3'.out.trans (hB4.mono HB3'.out.size)).mono HB2.out.size))
           have HBW4 := Lib.hid (HB1.out.trans (HB4.out.mono HB1.out.size))
           clear hB4 hfl q0 q1 q2 q3 q4 q5)
        | (go_at_call 11
           refine (fewMsg_any m At Ae Ao An ct ce co cn w2 (HM.out.below HBW2.out)).mono ?_
           rintro r w3 ⟨⟨rfl, _⟩ | ⟨rfl, hno⟩, hB3⟩
           case inr => exact absurd HFM.out hno
           have HB3 := Lib.hid (HB2.out.trans (hB3.mono HB2.out.size))
           have HB3' := Lib.hid hB3
           have q0 := blk_cell (blk_below Hb3.out HB3.out) 0
           have q1 := blk_cell (blk_below Hb3.out HB3.out) 1
           have q2 := blk_cell (blk_below Hb3.out HB3.out) 2
           have q3 := blk_cell (blk_below Hb3.out HB3.out) 3
           have q4 := blk_cell (blk_below Hb3.out HB3.out) 4
           have q5 := blk_cell (blk_below Hb3.out HB3.out) 5
           clear hB3 p0 p1 p2 p3 p4 p5 p6 p7 p8 p9 p10 p11 p12)
        | (go_at_call 6
           rw [← HW.out, ← HG3.out, ← HG2.out]
           refine (known_any W1).mono ?_
           rintro r w2 ⟨rfl, hB2⟩
           have HB2 := Lib.hid hB2
           have HBW2 := Lib.hid (HB1.out.trans (hB2.mono HB1.out.size))
           have p0 := blk_cell (blk_below Hb2.out HB2.out) 0
           have p1 := blk_cell (blk_below Hb2.out HB2.out) 1
           have p2 := blk_cell (blk_below Hb2.out HB2.out) 2
           have p3 := blk_cell (blk_below Hb2.out HB2.out) 3
           have p4 := blk_cell (blk_below Hb2.out HB2.out) 4
           have p5 := blk_cell (blk_below Hb2.out HB2.out) 5
           have p6 := blk_cell (blk_below Hb2.out HB2.out) 6
           have p7 := blk_cell (blk_below Hb2.out HB2.out) 7
           have p8 := blk_cell (blk_below Hb2.out HB2.out) 8
           have p9 := blk_cell (blk_below Hb2.out HB2.out) 9
           have p10 := blk_cell (blk_below Hb2.out HB2.out) 10
           have p11 := blk_cell (blk_below Hb2.out HB2.out) 11
           have p12 := blk_cell (blk_below Hb2.out HB2.out) 12
           clear hB2))
      obtain ⟨va, hva⟩ : ∃ v, v = Value.agg #[.int .i64 m.fr, .int .i64 m.tto, .int .i64 m.gen, .int .i64 m.kd, .int .i64 m.term, .int .i64 m.index, .int .i64 m.last, .int .i64 m.commit, .bool m.yes, .slice At m.terms.length ct, .slice Ae m.ents.length ce, .slice Ao m.old.length co, .slice An m.new.length cn] := ⟨_, rfl⟩
      obtain ⟨vb, hvb⟩ : ∃ v, v = Value.agg #[.int .i64 x.kd, .int .i64 x.c, .int .i64 x.q, .string x.data, .slice Ax x.mem.length cx, .int .i64 x.dst] := ⟨_, rfl⟩
      refine wp_norm (Rel5 w va vb g2 g3 At Ao An ct co cn) ?first5 ?rest5
      case first5 =>
        have hp := blk_below Hb2.out HB4.out
        have hq := blk_below Hb3.out HB4.out
        have p0 := blk_cell hp 0
        have p1 := blk_cell hp 1
        have p2 := blk_cell hp 2
        have p3 := blk_cell hp 3
        have p4 := blk_cell hp 4
        have p5 := blk_cell hp 5
        have p6 := blk_cell hp 6
        have p7 := blk_cell hp 7
        have p8 := blk_cell hp 8
        have p9 := blk_cell hp 9
        have p10 := blk_cell hp 10
        have p11 := blk_cell hp 11
        have p12 := blk_cell hp 12
        have q0 := blk_cell hq 0
        have q1 := blk_cell hq 1
        have q2 := blk_cell hq 2
        have q3 := blk_cell hq 3
        have q4 := blk_cell hq 4
        have q5 := blk_cell hq 5
        clear hp hq
        refine wp_region_noPanic ?_
        refine wp_region_held_drew (S := (fun _ => True)) (by kernel_rfl) trivial (fun hHeld => ?_)
        refine wpAnyH_ready (rs := [0, 2]) (by kernel_rfl) (by simp) ?_
        refine AllReadyH.cons (by simp only [List.getElem?_toArray, List.getElem?_cons_zero, List.getElem?_cons_succ]; rfl) (fun K hK => ?h1a) (AllReadyH.cons (by simp only [List.getElem?_toArray, List.getElem?_cons_zero, List.getElem?_cons_succ]; rfl) (fun K hK => ?h1b) AllReadyH.nil)
        case' h1a =>
          go_simp
          refine hK.out _ _ trivial (fun hHeld => ?_)
          clear hK K
          try simp only [Act.put, List.setIfInBounds_toArray, List.set_cons_zero, List.set_cons_succ]
          refine wpAnyH_ready (rs := [1, 2]) (by kernel_rfl) (by simp) ?_
          refine AllReadyH.cons (by simp only [List.getElem?_toArray, List.getElem?_cons_zero, List.getElem?_cons_succ]; rfl) (fun K hK => ?h2a) (AllReadyH.cons (by simp only [List.getElem?_toArray, List.getElem?_cons_zero, List.getElem?_cons_succ]; rfl) (fun K hK => ?h2b) AllReadyH.nil)
          case' h2a =>
            go_simp
            go_at_call 13
            refine (goodMsg_any m At Ae Ao An ct ce co cn w w4.drew (HBW4.out.drew) HM.out HC.out.1 HC.out.2.1 HC.out.2.2.1).mono ?_
            rintro r w5 ⟨m2, Ae2, ce2, rfl, hrm, hkd, hn1, hn2, hfe, hnt, hno, hnn, hB5⟩
            unfold msgV
            have HRM5 := Lib.hid hrm
            have HKD := Lib.hid hkd
            have HNE := Lib.hid (⟨hn1, hn2⟩ : m2.ents.length ≤ 64 ∧ m2.ents.length ≤ ce2)
            have HFE := Lib.hid hfe
            have HNT := Lib.hid hnt
            have HNO := Lib.hid hno.1
            have HNN := Lib.hid hnn.1
            have HB45 := Lib.hid (show Below w4.heap.size w4 w5 from ((Below.refl _ w4).drew).trans hB5)
            have HB5 := Lib.hid (HBW4.out.trans (HB45.out.mono HBW4.out.size))
            have q0' := blk_cell (blk_below (blk_below Hb3.out HB4.out) HB45.out) 0
            have q1' := blk_cell (blk_below (blk_below Hb3.out HB4.out) HB45.out) 1
            have q2' := blk_cell (blk_below (blk_below Hb3.out HB4.out) HB45.out) 2
            have q3' := blk_cell (blk_below (blk_below Hb3.out HB4.out) HB45.out) 3
            have q4' := blk_cell (blk_below (blk_below Hb3.out HB4.out) HB45.out) 4
            have q5' := blk_cell (blk_below (blk_below Hb3.out HB4.out) HB45.out) 5
            clear hrm hkd hn1 hn2 hfe hnt hno hnn hB5
            refine hK.out _ _ trivial (fun hHeld => ?_)
            clear hK K
            try simp only [Act.put, List.setIfInBounds_toArray, List.set_cons_zero, List.set_cons_succ]
            refine wpAnyH_ready (rs := [2]) (by kernel_rfl) (by simp) ?_
            refine AllReadyH.cons (by simp only [List.getElem?_toArray, List.getElem?_cons_zero, List.getElem?_cons_succ]; rfl) (fun K hK => ?_) AllReadyH.nil
            go_simp
            refine hK.out _ _ trivial (fun hHeld => ?_)
            clear hK K
            try simp only [Act.put, List.setIfInBounds_toArray, List.set_cons_zero, List.set_cons_succ]
            refine wpAnyH_ready (rs := [3]) (by kernel_rfl) (by simp) ?_
            refine AllReadyH.cons (by simp only [List.getElem?_toArray, List.getElem?_cons_zero, List.getElem?_cons_succ]; rfl) (fun K hK => ?_) AllReadyH.nil
            go_simp
            go_at_call 14
            refine (good_lit x.kd x.c x.q x.dst x.data x.mem Ax cx w5 (HX.out.below HB5.out) HC.out.2.2.2).mono ?_
            rintro r w6 ⟨⟨y, rfl, e1, e2, e3, e4, e5⟩, hB6⟩
            have HEY := Lib.hid (⟨e1, e2, e3, e4⟩ : entE y.e = 0 ∧ y.data.size ≤ 16 ∧ y.mem.length ≤ 9 ∧ y.mem.length ≤ y.cap)
            have HRY := Lib.hid (e5 w HX.out)
            have HB6 := Lib.hid (HB5.out.trans (hB6.mono HB5.out.size))
            have hb26 := blk_below (blk_below (blk_below Hb2.out HB4.out) HB45.out) hB6
            have hb36 := blk_below (blk_below (blk_below Hb3.out HB4.out) HB45.out) hB6
            have Hb26 := Lib.hid hb26
            have Hb36 := Lib.hid hb36
            have HRM := Lib.hid (fun W' (hW' : Keep (fun k => k = g2 ∨ k = g3) w6 W') => HRM5.out W' (((Keep.of_below hB6 (fun k => w.heap.size ≤ k ∧ k < w4.drew.heap.size))).trans (hW'.mono (fun k hk _ => by
              have h1 := blk_lt (blk_below Hb2.out HB4.out)
              have h2 := blk_lt (blk_below Hb3.out HB4.out)
              have h3 := HG2.out
              have h4 := HG3.out
              have h5 : w4.drew.heap.size = w4.heap.size := rfl
              rcases hk with e | e <;> subst e <;> omega)) (fun b h => .inl h)))
            have s0 := blk_cell hb26 0
            have s1 := blk_cell hb26 1
            have s2 := blk_cell hb26 2
            have s3 := blk_cell hb26 3
            have s4 := blk_cell hb26 4
            have s5 := blk_cell hb26 5
            have s6 := blk_cell hb26 6
            have s7 := blk_cell hb26 7
            have s8 := blk_cell hb26 8
            have s9 := blk_cell hb26 9
            have s10 := blk_cell hb26 10
            have s11 := blk_cell hb26 11
            have s12 := blk_cell hb26 12
            have sf := fun j => blk_frozen hb26 j
            have t0 := blk_cell hb36 0
            have t1 := blk_cell hb36 1
            have t2 := blk_cell hb36 2
            have t3 := blk_cell hb36 3
            have t4 := blk_cell hb36 4
            have t5 := blk_cell hb36 5
            have tf := fun j => blk_frozen hb36 j
            clear e1 e2 e3 e4 e5 hB6 hb26 hb36
            refine hK.out _ _ trivial (fun hHeld => ?_)
            clear hK K
            try simp only [Act.put, List.setIfInBounds_toArray, List.set_cons_zero, List.set_cons_succ]
            refine wpAnyH_ready (rs := [4]) (by kernel_rfl) (by simp) ?_
            refine AllReadyH.cons (by simp only [List.getElem?_toArray, List.getElem?_cons_zero, List.getElem?_cons_succ]; rfl) (fun K hK => ?_) AllReadyH.nil
            go_simp
            refine hK.out _ _ trivial (fun hHeld => ?_)
            clear hK K
            try simp only [Act.put, List.setIfInBounds_toArray, List.set_cons_zero, List.set_cons_succ]
            refine wpAnyH_ready (rs := [5]) (by kernel_rfl) (by simp) ?_
            refine AllReadyH.cons (by simp only [List.getElem?_toArray, List.getElem?_cons_zero, List.getElem?_cons_succ]; rfl) (fun K hK => ?_) AllReadyH.nil
            go_simp
            refine hK.out _ _ trivial (fun hHeld => ?_)
            clear hK K
            try simp only [Act.put, List.setIfInBounds_toArray, List.set_cons_zero, List.set_cons_succ]
            refine wpAnyH_done (by kernel_rfl) ?_ _
            refine NoPanic.normal ?_
          case' h2b =>
            go_simp
            refine hK.out _ _ trivial (fun hHeld => ?_)
            clear hK K
            try simp only [Act.put, List.setIfInBounds_toArray, List.set_cons_zero, List.set_cons_succ]
            refine wpAnyH_ready (rs := [1]) (by kernel_rfl) (by simp) ?_
            refine AllReadyH.cons (by simp only [List.getElem?_toArray, List.getElem?_cons_zero, List.getElem?_cons_succ]; rfl) (fun K hK => ?_) AllReadyH.nil
            go_simp
            go_at_call 13
            refine (goodMsg_any m At Ae Ao An ct ce co cn w w4.drew (HBW4.out.drew) HM.out HC.out.1 HC.out.2.1 HC.out.2.2.1).mono ?_
            rintro r w5 ⟨m2, Ae2, ce2, rfl, hrm, hkd, hn1, hn2, hfe, hnt, hno, hnn, hB5⟩
            unfold msgV
            have HRM5 := Lib.hid hrm
            have HKD := Lib.hid hkd
            have HNE := Lib.hid (⟨hn1, hn2⟩ : m2.ents.length ≤ 64 ∧ m2.ents.length ≤ ce2)
            have HFE := Lib.hid hfe
            have HNT := Lib.hid hnt
            have HNO := Lib.hid hno.1
            have HNN := Lib.hid hnn.1
            have HB45 := Lib.hid (show Below w4.heap.size w4 w5 from ((Below.refl _ w4).drew).trans hB5)
            have HB5 := Lib.hid (HBW4.out.trans (HB45.out.mono HBW4.out.size))
            have q0' := blk_cell (blk_below (blk_below Hb3.out HB4.out) HB45.out) 0
            have q1' := blk_cell (blk_below (blk_below Hb3.out HB4.out) HB45.out) 1
            have q2' := blk_cell (blk_below (blk_below Hb3.out HB4.out) HB45.out) 2
            have q3' := blk_cell (blk_below (blk_below Hb3.out HB4.out) HB45.out) 3
            have q4' := blk_cell (blk_below (blk_below Hb3.out HB4.out) HB45.out) 4
            have q5' := blk_cell (blk_below (blk_below Hb3.out HB4.out) HB45.out) 5
            clear hrm hkd hn1 hn2 hfe hnt hno hnn hB5
            refine hK.out _ _ trivial (fun hHeld => ?_)
            clear hK K
            try simp only [Act.put, List.setIfInBounds_toArray, List.set_cons_zero, List.set_cons_succ]
            refine wpAnyH_ready (rs := [3]) (by kernel_rfl) (by simp) ?_
            refine AllReadyH.cons (by simp only [List.getElem?_toArray, List.getElem?_cons_zero, List.getElem?_cons_succ]; rfl) (fun K hK => ?_) AllReadyH.nil
            go_simp
            go_at_call 14
            refine (good_lit x.kd x.c x.q x.dst x.data x.mem Ax cx w5 (HX.out.below HB5.out) HC.out.2.2.2).mono ?_
            rintro r w6 ⟨⟨y, rfl, e1, e2, e3, e4, e5⟩, hB6⟩
            have HEY := Lib.hid (⟨e1, e2, e3, e4⟩ : entE y.e = 0 ∧ y.data.size ≤ 16 ∧ y.mem.length ≤ 9 ∧ y.mem.length ≤ y.cap)
            have HRY := Lib.hid (e5 w HX.out)
            have HB6 := Lib.hid (HB5.out.trans (hB6.mono HB5.out.size))
            have hb26 := blk_below (blk_below (blk_below Hb2.out HB4.out) HB45.out) hB6
            have hb36 := blk_below (blk_below (blk_below Hb3.out HB4.out) HB45.out) hB6
            have Hb26 := Lib.hid hb26
            have Hb36 := Lib.hid hb36
            have HRM := Lib.hid (fun W' (hW' : Keep (fun k => k = g2 ∨ k = g3) w6 W') => HRM5.out W' (((Keep.of_below hB6 (fun k => w.heap.size ≤ k ∧ k < w4.drew.heap.size))).trans (hW'.mono (fun k hk _ => by
              have h1 := blk_lt (blk_below Hb2.out HB4.out)
              have h2 := blk_lt (blk_below Hb3.out HB4.out)
              have h3 := HG2.out
              have h4 := HG3.out
              have h5 : w4.drew.heap.size = w4.heap.size := rfl
              rcases hk with e | e <;> subst e <;> omega)) (fun b h => .inl h)))
            have s0 := blk_cell hb26 0
            have s1 := blk_cell hb26 1
            have s2 := blk_cell hb26 2
            have s3 := blk_cell hb26 3
            have s4 := blk_cell hb26 4
            have s5 := blk_cell hb26 5
            have s6 := blk_cell hb26 6
            have s7 := blk_cell hb26 7
            have s8 := blk_cell hb26 8
            have s9 := blk_cell hb26 9
            have s10 := blk_cell hb26 10
            have s11 := blk_cell hb26 11
            have s12 := blk_cell hb26 12
            have sf := fun j => blk_frozen hb26 j
            have t0 := blk_cell hb36 0
            have t1 := blk_cell hb36 1
            have t2 := blk_cell hb36 2
            have t3 := blk_cell hb36 3
            have t4 := blk_cell hb36 4
            have t5 := blk_cell hb36 5
            have tf := fun j => blk_frozen hb36 j
            clear e1 e2 e3 e4 e5 hB6 hb26 hb36
            refine hK.out _ _ trivial (fun hHeld => ?_)
            clear hK K
            try simp only [Act.put, List.setIfInBounds_toArray, List.set_cons_zero, List.set_cons_succ]
            refine wpAnyH_ready (rs := [4]) (by kernel_rfl) (by simp) ?_
            refine AllReadyH.cons (by simp only [List.getElem?_toArray, List.getElem?_cons_zero, List.getElem?_cons_succ]; rfl) (fun K hK => ?_) AllReadyH.nil
            go_simp
            refine hK.out _ _ trivial (fun hHeld => ?_)
            clear hK K
            try simp only [Act.put, List.setIfInBounds_toArray, List.set_cons_zero, List.set_cons_succ]
            refine wpAnyH_ready (rs := [5]) (by kernel_rfl) (by simp) ?_
            refine AllReadyH.cons (by simp only [List.getElem?_toArray, List.getElem?_cons_zero, List.getElem?_cons_succ]; rfl) (fun K hK => ?_) AllReadyH.nil
            go_simp
            refine hK.out _ _ trivial (fun hHeld => ?_)
            clear hK K
            try simp only [Act.put, List.setIfInBounds_toArray, List.set_cons_zero, List.set_cons_succ]
            refine wpAnyH_done (by kernel_rfl) ?_ _
            refine NoPanic.normal ?_
        case' h1b =>
          go_simp
          refine hK.out _ _ trivial (fun hHeld => ?_)
          clear hK K
          try simp only [Act.put, List.setIfInBounds_toArray, List.set_cons_zero, List.set_cons_succ]
          refine wpAnyH_ready (rs := [0]) (by kernel_rfl) (by simp) ?_
          refine AllReadyH.cons (by simp only [List.getElem?_toArray, List.getElem?_cons_zero, List.getElem?_cons_succ]; rfl) (fun K hK => ?_) AllReadyH.nil
          go_simp
          refine hK.out _ _ trivial (fun hHeld => ?_)
          clear hK K
          try simp only [Act.put, List.setIfInBounds_toArray, List.set_cons_zero, List.set_cons_succ]
          refine wpAnyH_ready (rs := [1]) (by kernel_rfl) (by simp) ?_
          refine AllReadyH.cons (by simp only [List.getElem?_toArray, List.getElem?_cons_zero, List.getElem?_cons_succ]; rfl) (fun K hK => ?_) AllReadyH.nil
          go_simp
          go_at_call 13
          refine (goodMsg_any m At Ae Ao An ct ce co cn w w4.drew (HBW4.out.drew) HM.out HC.out.1 HC.out.2.1 HC.out.2.2.1).mono ?_
          rintro r w5 ⟨m2, Ae2, ce2, rfl, hrm, hkd, hn1, hn2, hfe, hnt, hno, hnn, hB5⟩
          unfold msgV
          have HRM5 := Lib.hid hrm
          have HKD := Lib.hid hkd
          have HNE := Lib.hid (⟨hn1, hn2⟩ : m2.ents.length ≤ 64 ∧ m2.ents.length ≤ ce2)
          have HFE := Lib.hid hfe
          have HNT := Lib.hid hnt
          have HNO := Lib.hid hno.1
          have HNN := Lib.hid hnn.1
          have HB45 := Lib.hid (show Below w4.heap.size w4 w5 from ((Below.refl _ w4).drew).trans hB5)
          have HB5 := Lib.hid (HBW4.out.trans (HB45.out.mono HBW4.out.size))
          have q0' := blk_cell (blk_below (blk_below Hb3.out HB4.out) HB45.out) 0
          have q1' := blk_cell (blk_below (blk_below Hb3.out HB4.out) HB45.out) 1
          have q2' := blk_cell (blk_below (blk_below Hb3.out HB4.out) HB45.out) 2
          have q3' := blk_cell (blk_below (blk_below Hb3.out HB4.out) HB45.out) 3
          have q4' := blk_cell (blk_below (blk_below Hb3.out HB4.out) HB45.out) 4
          have q5' := blk_cell (blk_below (blk_below Hb3.out HB4.out) HB45.out) 5
          clear hrm hkd hn1 hn2 hfe hnt hno hnn hB5
          refine hK.out _ _ trivial (fun hHeld => ?_)
          clear hK K
          try simp only [Act.put, List.setIfInBounds_toArray, List.set_cons_zero, List.set_cons_succ]
          refine wpAnyH_ready (rs := [3]) (by kernel_rfl) (by simp) ?_
          refine AllReadyH.cons (by simp only [List.getElem?_toArray, List.getElem?_cons_zero, List.getElem?_cons_succ]; rfl) (fun K hK => ?_) AllReadyH.nil
          go_simp
          go_at_call 14
          refine (good_lit x.kd x.c x.q x.dst x.data x.mem Ax cx w5 (HX.out.below HB5.out) HC.out.2.2.2).mono ?_
          rintro r w6 ⟨⟨y, rfl, e1, e2, e3, e4, e5⟩, hB6⟩
          have HEY := Lib.hid (⟨e1, e2, e3, e4⟩ : entE y.e = 0 ∧ y.data.size ≤ 16 ∧ y.mem.length ≤ 9 ∧ y.mem.length ≤ y.cap)
          have HRY := Lib.hid (e5 w HX.out)
          have HB6 := Lib.hid (HB5.out.trans (hB6.mono HB5.out.size))
          have hb26 := blk_below (blk_below (blk_below Hb2.out HB4.out) HB45.out) hB6
          have hb36 := blk_below (blk_below (blk_below Hb3.out HB4.out) HB45.out) hB6
          have Hb26 := Lib.hid hb26
          have Hb36 := Lib.hid hb36
          have HRM := Lib.hid (fun W' (hW' : Keep (fun k => k = g2 ∨ k = g3) w6 W') => HRM5.out W' (((Keep.of_below hB6 (fun k => w.heap.size ≤ k ∧ k < w4.drew.heap.size))).trans (hW'.mono (fun k hk _ => by
            have h1 := blk_lt (blk_below Hb2.out HB4.out)
            have h2 := blk_lt (blk_below Hb3.out HB4.out)
            have h3 := HG2.out
            have h4 := HG3.out
            have h5 : w4.drew.heap.size = w4.heap.size := rfl
            rcases hk with e | e <;> subst e <;> omega)) (fun b h => .inl h)))
          have s0 := blk_cell hb26 0
          have s1 := blk_cell hb26 1
          have s2 := blk_cell hb26 2
          have s3 := blk_cell hb26 3
          have s4 := blk_cell hb26 4
          have s5 := blk_cell hb26 5
          have s6 := blk_cell hb26 6
          have s7 := blk_cell hb26 7
          have s8 := blk_cell hb26 8
          have s9 := blk_cell hb26 9
          have s10 := blk_cell hb26 10
          have s11 := blk_cell hb26 11
          have s12 := blk_cell hb26 12
          have sf := fun j => blk_frozen hb26 j
          have t0 := blk_cell hb36 0
          have t1 := blk_cell hb36 1
          have t2 := blk_cell hb36 2
          have t3 := blk_cell hb36 3
          have t4 := blk_cell hb36 4
          have t5 := blk_cell hb36 5
          have tf := fun j => blk_frozen hb36 j
          clear e1 e2 e3 e4 e5 hB6 hb26 hb36
          refine hK.out _ _ trivial (fun hHeld => ?_)
          clear hK K
          try simp only [Act.put, List.setIfInBounds_toArray, List.set_cons_zero, List.set_cons_succ]
          refine wpAnyH_ready (rs := [4]) (by kernel_rfl) (by simp) ?_
          refine AllReadyH.cons (by simp only [List.getElem?_toArray, List.getElem?_cons_zero, List.getElem?_cons_succ]; rfl) (fun K hK => ?_) AllReadyH.nil
          go_simp
          refine hK.out _ _ trivial (fun hHeld => ?_)
          clear hK K
          try simp only [Act.put, List.setIfInBounds_toArray, List.set_cons_zero, List.set_cons_succ]
          refine wpAnyH_ready (rs := [5]) (by kernel_rfl) (by simp) ?_
          refine AllReadyH.cons (by simp only [List.getElem?_toArray, List.getElem?_cons_zero, List.getElem?_cons_succ]; rfl) (fun K hK => ?_) AllReadyH.nil
          go_simp
          refine hK.out _ _ trivial (fun hHeld => ?_)
          clear hK K
          try simp only [Act.put, List.setIfInBounds_toArray, List.set_cons_zero, List.set_cons_succ]
          refine wpAnyH_done (by kernel_rfl) ?_ _
          refine NoPanic.normal ?_
        all_goals
          have hf : (((((((((((((((((((w6.setCell ⟨g2, 0, none⟩ (.int .i64 m2.fr)).setCell ⟨g2, 1, none⟩ (.int .i64 m2.tto)).setCell ⟨g2, 2, none⟩ (.int .i64 m2.gen)).setCell ⟨g2, 3, none⟩ (.int .i64 m2.kd)).setCell ⟨g2, 4, none⟩ (.int .i64 m2.term)).setCell ⟨g2, 5, none⟩ (.int .i64 m2.index)).setCell ⟨g2, 6, none⟩ (.int .i64 m2.last)).setCell ⟨g2, 7, none⟩ (.int .i64 m2.commit)).setCell ⟨g2, 8, none⟩ (.bool m2.yes)).setCell ⟨g2, 9, none⟩ (.slice At m2.terms.length ct)).setCell ⟨g2, 10, none⟩ (.slice Ae2 m2.ents.length ce2)).setCell ⟨g2, 11, none⟩ (.slice Ao m2.old.length co)).setCell ⟨g2, 12, none⟩ (.slice An m2.new.length cn)).setCell ⟨g3, 0, none⟩ (.int .i64 y.kd)).setCell ⟨g3, 1, none⟩ (.int .i64 y.c)).setCell ⟨g3, 2, none⟩ (.int .i64 y.q)).setCell ⟨g3, 3, none⟩ (.string y.data)).setCell ⟨g3, 4, none⟩ (.slice y.A y.mem.length y.cap)).setCell ⟨g3, 5, none⟩ (.int .i64 y.dst)) = (w6.setCells g2 0 [.int .i64 m2.fr, .int .i64 m2.tto, .int .i64 m2.gen, .int .i64 m2.kd, .int .i64 m2.term, .int .i64 m2.index, .int .i64 m2.last, .int .i64 m2.commit, .bool m2.yes, .slice At m2.terms.length ct, .slice Ae2 m2.ents.length ce2, .slice Ao m2.old.length co, .slice An m2.new.length cn]).setCells g3 0 [.int .i64 y.kd, .int .i64 y.c, .int .i64 y.q, .string y.data, .slice y.A y.mem.length y.cap, .int .i64 y.dst] := rfl
          rw [hf]
          clear hf s0 s1 s2 s3 s4 s5 s6 s7 s8 s9 s10 s11 s12 sf t0 t1 t2 t3 t4 t5 tf
          have hS := CutSt.start (w := w) (W6 := w6) (m := m2) (Ae := Ae2) (ce := ce2) (y := y) (At := At) (Ao := Ao) (An := An) (ct := ct) (co := co) (cn := cn) h32 (by rw [HG2.out]; exact Nat.le_refl _) (by rw [HG3.out]; exact Nat.le_succ _) HB6.out Hb26.out rfl Hb36.out rfl HRM.out HKD.out HNE.out HFE.out HNT.out HNO.out HNN.out HEY.out HRY.out
          generalize (w6.setCells g2 0 [.int .i64 m2.fr, .int .i64 m2.tto, .int .i64 m2.gen, .int .i64 m2.kd, .int .i64 m2.term, .int .i64 m2.index, .int .i64 m2.last, .int .i64 m2.commit, .bool m2.yes, .slice At m2.terms.length ct, .slice Ae2 m2.ents.length ce2, .slice Ao m2.old.length co, .slice An m2.new.length cn]).setCells g3 0 [.int .i64 y.kd, .int .i64 y.c, .int .i64 y.q, .string y.data, .slice y.A y.mem.length y.cap, .int .i64 y.dst] = Wf at hS ⊢
          refine Norm.mk ⟨_, _, _, _, _, _, _, _, _, _, _, _, _, _, by rw [hva, hvb], m2, Ae2, ce2, y, hS⟩
      case rest5 =>
        clear HW Hb2 Hb3 HFX HFM hva hvb
        rintro a' w5 ⟨x19, x20, x21, x22, x23, x24, x25, x26, x27, x28, x29, x30, x31, x32, rfl, m2, Ae2, ce2, y, hS⟩
        have HS := Lib.hid hS
        have hb2 := hS.b2
        have p0 := blk_cell hb2 0
        have p1 := blk_cell hb2 1
        have p2 := blk_cell hb2 2
        have p3 := blk_cell hb2 3
        have p4 := blk_cell hb2 4
        have p5 := blk_cell hb2 5
        have p6 := blk_cell hb2 6
        have p7 := blk_cell hb2 7
        have p8 := blk_cell hb2 8
        have p9 := blk_cell hb2 9
        have p10 := blk_cell hb2 10
        have p11 := blk_cell hb2 11
        have p12 := blk_cell hb2 12
        have fp := fun j => blk_frozen hb2 j
        have hne := hS.ne.2
        clear hS hb2
        have h2w : w.heap.size ≤ g2 := by rw [HG2.out]; exact Nat.le_refl _
        go_step
        go_step
        refine wp_norm (Rel7 w va vb g2 g3 At Ao An ct co cn) ?first7 ?rest7
        case first7 =>
          by_cases b1 : (3 : Int) < (m2.ents.length : Int)
          · have hce : ∀ W, (Instr.slice 28 (.slice Ae2 m2.ents.length ce2) none (some (.int .i64 3)) none).run Tryd.prog W = .ok (.slice Ae2 3 ce2) W := fun W => cut_e Ae2 m2.ents.length ce2 3 (by omega) W
            have HDR := Lib.hid (HS.out.drop_ents h32 h2w (by omega))
            go_wp2_with fail
            exact Norm.mk ⟨_, _, _, _, _, _, _, _, _, _, _, _, _, _, _, _, _, _, _, _, _, _, rfl, _, Ae2, ce2, y, HDR.out⟩
          · go_wp2_with fail
            exact Norm.mk ⟨_, _, _, _, _, _, _, _, _, _, _, _, _, _, _, _, _, _, _, _, _, _, rfl, m2, Ae2, ce2, y, HS.out⟩
        case rest7 =>
        clear HS p0 p1 p2 p3 p4 p5 p6 p7 p8 p9 p10 p11 p12 fp hne
        clear m2 Ae2 ce2 y w5
        rintro a' w5 ⟨x19, x20, x21, x22, x23, x24, x25, x26, x27, x28, x29, x30, x31, x32, x33, x34, x35, x36, x37, x38, x39, x40, rfl, m2, Ae2, ce2, y, hS⟩
        have HS := Lib.hid hS
        have hb2 := hS.b2
        have p0 := blk_cell hb2 0
        have p1 := blk_cell hb2 1
        have p2 := blk_cell hb2 2
        have p3 := blk_cell hb2 3
        have p4 := blk_cell hb2 4
        have p5 := blk_cell hb2 5
        have p6 := blk_cell hb2 6
        have p7 := blk_cell hb2 7
        have p8 := blk_cell hb2 8
        have p9 := blk_cell hb2 9
        have p10 := blk_cell hb2 10
        have p11 := blk_cell hb2 11
        have p12 := blk_cell hb2 12
        have fp := fun j => blk_frozen hb2 j
        have hne := hS.nt.2
        clear hS hb2
        go_step
        go_step
        refine wp_norm (Rel9 w va vb g2 g3 At Ao An ct co cn) ?first9 ?rest9
        case first9 =>
          by_cases b1 : (5 : Int) < (m2.terms.length : Int)
          · have hce : ∀ W, (Instr.slice 25 (.slice At m2.terms.length ct) none (some (.int .i64 5)) none).run Tryd.prog W = .ok (.slice At 5 ct) W := fun W => cut_i At m2.terms.length ct 5 (by omega) W
            have HDR := Lib.hid (HS.out.drop_terms h32 h2w (by omega))
            go_wp2_with fail
            exact Norm.mk ⟨_, _, _, _, _, _, _, _, _, _, _, _, _, _, _, _, _, _, _, _, _, _, _, _, _, _, _, _, _, _, rfl, _, Ae2, ce2, y, HDR.out⟩
          · go_wp2_with fail
            exact Norm.mk ⟨_, _, _, _, _, _, _, _, _, _, _, _, _, _, _, _, _, _, _, _, _, _, _, _, _, _, _, _, _, _, rfl, m2, Ae2, ce2, y, HS.out⟩
        case rest9 =>
        clear HS p0 p1 p2 p3 p4 p5 p6 p7 p8 p9 p10 p11 p12 fp hne
        clear m2 Ae2 ce2 y w5
        rintro a' w5 ⟨x19, x20, x21, x22, x23, x24, x25, x26, x27, x28, x29, x30, x31, x32, x33, x34, x35, x36, x37, x38, x39, x40, x41, x42, x43, x44, x45, x46, x47, x48, rfl, m2, Ae2, ce2, y, hS⟩
        have HS := Lib.hid hS
        have hb2 := hS.b2
        have p0 := blk_cell hb2 0
        have p1 := blk_cell hb2 1
        have p2 := blk_cell hb2 2
        have p3 := blk_cell hb2 3
        have p4 := blk_cell hb2 4
        have p5 := blk_cell hb2 5
        have p6 := blk_cell hb2 6
        have p7 := blk_cell hb2 7
        have p8 := blk_cell hb2 8
        have p9 := blk_cell hb2 9
        have p10 := blk_cell hb2 10
        have p11 := blk_cell hb2 11
        have p12 := blk_cell hb2 12
        have hzm := hS.zero
        have HZM := Lib.hid hzm
        have HZE := Lib.hid hS.ey.1
        have HSM := Lib.hid (msgB_small hS.nt.1 hS.ne.1 (fun z hz => (hS.few z hz).2) hS.no hS.nn)
        have HSE := Lib.hid (show (entB y.e).length ≤ 1000000 from by rw [entB_length]; have h1 := hS.ey.2.1; have h2 := hS.ey.2.2.1; show 20 + y.data.size + 8 * y.mem.length ≤ 1000000; omega)
        have HG5 := Lib.hid (HG.out.below hS.below)
        have h05 : 0 < w5.heap.size := Nat.lt_of_lt_of_le H0.out hS.below.size
        clear hS hb2 hzm
        go_step
        go_step
        go_wp2_with (first
          | (go_at_call 8
             have hE := encEntry_any y.e y.A y.cap w6 (HG5.out.below HB6.out) (HS.out.ry.below (HS.out.below.trans (HB6.out.mono HS.out.below.size))) (by have h1 := HS.out.ey.2.1; have h2 := HS.out.ey.2.2.1; show y.data.size + 8 * y.mem.length ≤ 600000; omega)
             rw [HZE.out] at hE
             refine hE.mono ?_
             rintro r w7 hT
             obtain ⟨Ab, cb, rfl, hcb, hob, hBb⟩ := told_row hT
             obtain ⟨LB, hLB⟩ : ∃ n, n = (entB y.e).length := ⟨_, rfl⟩
             obtain ⟨Ab', cb', he, hrb⟩ := own_reads hob
             injection he with he1 _ he3
             subst he1 he3
             rw [← hLB] at hrb hcb ⊢
             have HLB := Lib.hid hLB
             have HRB := Lib.hid hrb
             have HB7 := Lib.hid (HB6.out.trans (hBb.mono HB6.out.size))
             have HRA7 := Lib.hid (HRA.out.below hBb)
             clear hT hob hBb hrb hLB hE q0 q1 q2 q3 q4 q5)
          | (go_at_call 9
             have hE := encMsg_any m2 At Ae2 Ao An ct ce2 co cn w5 HG5.out HS.out.msg
             rw [HZM.out] at hE
             refine hE.mono ?_
             rintro r w6 hT
             obtain ⟨Aa, ca, rfl, hca, hoa, hBa⟩ := told_row hT
             obtain ⟨LA, hLA⟩ : ∃ n, n = (msgB m2).length := ⟨_, rfl⟩
             obtain ⟨Aa', ca', he, hra⟩ := own_reads hoa
             injection he with he1 _ he3
             subst he1 he3
             rw [← hLA] at hra hca ⊢
             have HLA := Lib.hid hLA
             have HRA := Lib.hid hra
             have HB6 := Lib.hid hBa
             have hb3 := blk_below HS.out.b3 hBa
             have q0 := blk_cell hb3 0
             have q1 := blk_cell hb3 1
             have q2 := blk_cell hb3 2
             have q3 := blk_cell hb3 3
             have q4 := blk_cell hb3 4
             have q5 := blk_cell hb3 5
             clear hT hoa hBa hra hLA hE hb3 p0 p1 p2 p3 p4 p5 p6 p7 p8 p9 p10 p11 p12))
        have h07 : 0 < w7.heap.size := Nat.lt_of_lt_of_le h05 HB7.out.size
        have HG7 := Lib.hid (HG5.out.below HB7.out)
        have HBW7 := Lib.hid (HS.out.below.trans (HB7.out.mono HS.out.below.size))
        have hla : LA ≤ 1000000 := by rw [HLA.out]; exact HSM.out
        have hlb : LB ≤ 1000000 := by rw [HLB.out]; exact HSE.out
        clear h05 HG5 HB6 HB7
        go_loopw [9, 10, 11] (fun iv _ _ wr => ∃ (k : Nat), k ≤ LA ∧ iv = .int .i64 (k : Int) ∧ RowKit.Hid (Below w7.heap.size w7 wr)) (fun iv _ _ _ => LA - (intOf iv).toNat)
        case atStart => exact ⟨0, Nat.zero_le _, rfl, Lib.hid (Below.refl _ _)⟩
        case round =>
          obtain ⟨k, hk, rfl, HBK⟩ := hrel
          have hk0 : (0 : Int) ≤ (k : Int) := by omega
          by_cases hlt : (k : Int) < (LA : Int)
          · have hcs : ∀ W, (Instr.slice 24 (.slice Aa LA ca) none (some (.int .i64 (k : Int))) none).run Tryd.prog W = .ok (.slice Aa k ca) W := fun W => cut_to Aa LA ca k (by omega) W
            have HCM := Lib.hid (cut_msg HZM.out wr Aa ca k (by rw [← HLA.out]; omega) (by have := HSM.out; omega) (by rw [← HLA.out]; exact HRA7.out.below HBK.out) (HG7.out.below HBK.out) (Nat.lt_of_lt_of_le h07 HBK.out.size))
            go_wp2_with (go_at_call 15
                         refine HCM.out.mono ?_
                         rintro r w8 ⟨At', ct', Ae', ce', Ao', co', An', cn', rfl, _, _, _, _, hB8⟩
                         simp only [msgV, msg0, List.length_nil]
                         have HB8 := Lib.hid (HBK.out.trans (hB8.mono HBK.out.size))
                         clear hB8)
            exact ⟨⟨k + 1, by omega, by simp, Lib.hid (HB8.out.alloc HB8.out.size _)⟩, by simp [intOf]; omega⟩
          · have HW8 := Lib.hid (HBW7.out.trans (HBK.out.mono HBW7.out.size))
            go_wp2_with fail
            go_loopw [12, 13, 14] (fun iv _ _ wt => ∃ (k2 : Nat), k2 ≤ LB ∧ iv = .int .i64 (k2 : Int) ∧ RowKit.Hid (Below w7.heap.size w7 wt)) (fun iv _ _ _ => LB - (intOf iv).toNat)
            case atStart => exact ⟨0, Nat.zero_le _, rfl, HBK⟩
            case round =>
              obtain ⟨k2, hk2, rfl, HBT⟩ := hrel
              have hk20 : (0 : Int) ≤ (k2 : Int) := by omega
              by_cases hlt2 : (k2 : Int) < (LB : Int)
              · have hcs : ∀ W, (Instr.slice 24 (.slice Ab LB cb) none (some (.int .i64 (k2 : Int))) none).run Tryd.prog W = .ok (.slice Ab k2 cb) W := fun W => cut_to Ab LB cb k2 (by omega) W
                have HCM := Lib.hid (cut_ent HZE.out wr Ab cb k2 (by rw [← HLB.out]; omega) (by have := HSE.out; omega) (by rw [← HLB.out]; exact HRB.out.below HBT.out) (HG7.out.below HBT.out) (Nat.lt_of_lt_of_le h07 HBT.out.size))
                go_wp2_with (go_at_call 16
                             refine HCM.out.mono ?_
                             rintro r w8 ⟨A', c', rfl, _, hB8⟩
                             simp only [ent0, List.length_nil]
                             have HB8 := Lib.hid (HBT.out.trans (hB8.mono HBT.out.size))
                             clear hB8)
                exact ⟨⟨k2 + 1, by omega, by simp, Lib.hid (HB8.out.alloc HB8.out.size _)⟩, by simp [intOf]; omega⟩
              · have HRA8 := Lib.hid (HRA7.out.below HBT.out)
                have HRB8 := Lib.hid (HRB.out.below HBT.out)
                have HG8 := Lib.hid (HG7.out.below HBT.out)
                have h08 : 0 < wr.heap.size := Nat.lt_of_lt_of_le h07 HBT.out.size
                have HWT := Lib.hid (HBW7.out.trans (HBT.out.mono HBW7.out.size))
                go_wp2_with (first
                  | (go_at_call 16
                     refine (more_ent HZE.out _ A6 c6 L6 HL6.out (by have := HSE.out; omega) (own_reads' HR6.out) ((HG8.out.below HBA3.out).below HB6'.out) (Nat.lt_of_lt_of_le h08 (Nat.le_trans HBA3.out.size HB6'.out.size))).mono ?_
                     rintro r w13 ⟨A', c', rfl, _, hB8⟩
                     simp only [ent0, List.length_nil]
                     have HB13 := Lib.hid ((HBA3.out.trans (HB6'.out.mono HBA3.out.size)).trans (hB8.mono (Nat.le_trans HBA3.out.size HB6'.out.size)))
                     clear hB8)
                  | (at_builtin; refine print_append_num (w0 := w10) (W := w11) w10.heap.size rfl _ _ 24 5 .u8 1 rfl Tryd.underlying24 info5 (by decide) (.slice A5 L5 c5) (entB y.e) 0 (by rfl) (by rfl) (HL5.out ▸ HR5.out) HB5'.out HB5'.out.size (by have := HSE.out; omega) ?_
                     intro v6 w12 hR6 hB6 hg6 hat6
                     obtain ⟨L6, hL6⟩ : ∃ n, n = (entB y.e ++ [0]).length := ⟨_, rfl⟩
                     rw [← hL6] at hR6
                     obtain ⟨A6, c6, rfl⟩ := own_slice hR6
                     have HL6 := Lib.hid hL6
                     have HR6 := Lib.hid hR6
                     have HB6' := Lib.hid hB6
                     clear hR6 hB6 hg6 hat6 hL6)
                  | (at_builtin
                     obtain ⟨w10, hw10⟩ : ∃ z, z = w9.alloc (.cells #[.int .i64 0, .int .i64 0, .int .i64 0, .int .i64 0, .int .i64 0, .int .i64 0, .int .i64 0, .int .i64 0, .bool false, .slice At' 0 ct', .slice Ae' 0 ce', .slice Ao' 0 co', .slice An' 0 cn'] 32) := ⟨_, rfl⟩
                     have HBA3 := Lib.hid (show Below wr.heap.size wr w10 from by rw [hw10]; exact HB9.out.alloc HB9.out.size _)
                     have hs10 : w9.heap.size + 1 = w10.heap.size := by rw [hw10]; simp
                     rw [← hw10, hs10]
                     clear hw10 hs10
                     refine print_append_row (w0 := w10) w10.heap.size rfl _ _ 24 5 .u8 1 (by rfl) Tryd.underlying24 info5 (by decide) (.slice (some ⟨w10.heap.size, 0, none⟩) 0 0) [] (entB y.e) Ab LB cb (by rfl) (by rfl) (empty8 w10) ((HRB8.out.below HBA3.out).below ((Below.refl _ _).alloc (Nat.le_refl _) _)) ((Below.refl _ _).alloc (Nat.le_refl _) _) (by simp) (by simp; omega) ?_
                     intro v5 w11 hR5 hB5 hg5 hat5
                     rw [List.nil_append] at hR5
                     obtain ⟨L5, hL5⟩ : ∃ n, n = (entB y.e).length := ⟨_, rfl⟩
                     rw [← hL5] at hR5
                     obtain ⟨A5, c5, rfl⟩ := own_slice hR5
                     have HL5 := Lib.hid hL5
                     have HR5 := Lib.hid hR5
                     have HB5' := Lib.hid hB5
                     clear hR5 hB5 hg5 hat5 hL5)
                  | (go_at_call 15
                     refine (more_msg HZM.out _ A4 c4 L4 HL4.out (by have := HSM.out; omega) (own_reads' HR4.out) (HG8.out.below HB4'.out) (Nat.lt_of_lt_of_le h08 HB4'.out.size)).mono ?_
                     rintro r w9 ⟨At', ct', Ae', ce', Ao', co', An', cn', rfl, _, _, _, _, hB8⟩
                     simp only [msgV, msg0, List.length_nil]
                     have HB9 := Lib.hid (HB4'.out.trans (hB8.mono HB4'.out.size))
                     clear hB8)
                  | (at_builtin; refine print_append_num (w0 := wr) (W := w8) wr.heap.size rfl _ _ 24 5 .u8 1 rfl Tryd.underlying24 info5 (by decide) (.slice A3 L3 c3) (msgB m2) 0 (by rfl) (by rfl) (HL3.out ▸ HR3.out) HB3'.out HB3'.out.size (by have := HSM.out; omega) ?_
                     intro v4 w9 hR4 hB4 hg4 hat4
                     obtain ⟨L4, hL4⟩ : ∃ n, n = (msgB m2 ++ [0]).length := ⟨_, rfl⟩
                     rw [← hL4] at hR4
                     obtain ⟨A4, c4, rfl⟩ := own_slice hR4
                     have HL4 := Lib.hid hL4
                     have HR4 := Lib.hid hR4
                     have HB4' := Lib.hid hB4
                     clear hR4 hB4 hg4 hat4 hL4)
                  | (at_builtin; refine print_append_row (w0 := wr) wr.heap.size rfl _ _ 24 5 .u8 1 (by rfl) Tryd.underlying24 info5 (by decide) (.slice (some ⟨wr.heap.size, 0, none⟩) 0 0) [] (msgB m2) Aa LA ca (by rfl) (by rfl) (empty8 wr) (HRA8.out.below ((Below.refl _ _).alloc (Nat.le_refl _) _)) ((Below.refl _ _).alloc (Nat.le_refl _) _) (by simp) (by simp; omega) ?_
                     intro v3 w8 hR3 hB3 hg3 hat3
                     rw [List.nil_append] at hR3
                     obtain ⟨L3, hL3⟩ : ∃ n, n = (msgB m2).length := ⟨_, rfl⟩
                     rw [← hL3] at hR3
                     obtain ⟨A3, c3, rfl⟩ := own_slice hR3
                     have HL3 := Lib.hid hL3
                     have HR3 := Lib.hid hR3
                     have HB3' := Lib.hid hB3
                     clear hR3 hB3 hg3 hat3 hL3))
                go_ret
                exact ⟨rfl, HWT.out.trans ((HB13.out.alloc HB13.out.size _).mono HWT.out.size)⟩
    · have HFX := Lib.hid (Bool.eq_false_iff.2 hfx)
      have HFM := Lib.hid hfew
      clear hfx hfew
      go_enter Tryd.func4, Tryd.ntmps4
      go_wp2_with (first
        | (go_at_call 12
           have hfl := few_lit x.kd x.c x.q x.data x.mem.length x.dst Ax cx w3
           rw [HFX.out] at hfl
           refine hfl.mono ?_
           rintro r w4 ⟨rfl, hB4⟩
           have HB4 := Lib.hid (HB2.out.trans ((HB3'.out.trans (hB4.mono HB3'.out.size)).mono HB2.out.size))
           have HBW4 := Lib.hid (HB1.out.trans (HB4.out.mono HB1.out.size))
           clear hB4 hfl q0 q1 q2 q3 q4 q5)
        | (go_at_call 11
           refine (fewMsg_any m At Ae Ao An ct ce co cn w2 (HM.out.below HBW2.out)).mono ?_
           rintro r w3 ⟨⟨rfl, _⟩ | ⟨rfl, hno⟩, hB3⟩
           case inr => exact absurd HFM.out hno
           have HB3 := Lib.hid (HB2.out.trans (hB3.mono HB2.out.size))
           have HB3' := Lib.hid hB3
           have q0 := blk_cell (blk_below Hb3.out HB3.out) 0
           have q1 := blk_cell (blk_below Hb3.out HB3.out) 1
           have q2 := blk_cell (blk_below Hb3.out HB3.out) 2
           have q3 := blk_cell (blk_below Hb3.out HB3.out) 3
           have q4 := blk_cell (blk_below Hb3.out HB3.out) 4
           have q5 := blk_cell (blk_below Hb3.out HB3.out) 5
           clear hB3 p0 p1 p2 p3 p4 p5 p6 p7 p8 p9 p10 p11 p12)
        | (go_at_call 6
           rw [← HW.out, ← HG3.out, ← HG2.out]
           refine (known_any W1).mono ?_
           rintro r w2 ⟨rfl, hB2⟩
           have HB2 := Lib.hid hB2
           have HBW2 := Lib.hid (HB1.out.trans (hB2.mono HB1.out.size))
           have p0 := blk_cell (blk_below Hb2.out HB2.out) 0
           have p1 := blk_cell (blk_below Hb2.out HB2.out) 1
           have p2 := blk_cell (blk_below Hb2.out HB2.out) 2
           have p3 := blk_cell (blk_below Hb2.out HB2.out) 3
           have p4 := blk_cell (blk_below Hb2.out HB2.out) 4
           have p5 := blk_cell (blk_below Hb2.out HB2.out) 5
           have p6 := blk_cell (blk_below Hb2.out HB2.out) 6
           have p7 := blk_cell (blk_below Hb2.out HB2.out) 7
           have p8 := blk_cell (blk_below Hb2.out HB2.out) 8
           have p9 := blk_cell (blk_below Hb2.out HB2.out) 9
           have p10 := blk_cell (blk_below Hb2.out HB2.out) 10
           have p11 := blk_cell (blk_below Hb2.out HB2.out) 11
           have p12 := blk_cell (blk_below Hb2.out HB2.out) 12
           clear hB2))
      go_ret
      exact ⟨rfl, HBW4.out⟩
  · have HNO := Lib.hid hfew
    clear hfew
    go_enter Tryd.func4, Tryd.ntmps4
    go_wp2_with (first
        | (go_at_call 11
           refine (fewMsg_any m At Ae Ao An ct ce co cn w2 (HM.out.below HBW2.out)).mono ?_
           rintro r w3 ⟨⟨rfl, hyes⟩ | ⟨rfl, _⟩, hB3⟩
           case inl => exact absurd hyes HNO.out
           have HB3 := Lib.hid (HB2.out.trans (hB3.mono HB2.out.size))
           have HB3' := Lib.hid hB3
           have q0 := blk_cell (blk_below Hb3.out HB3.out) 0
           have q1 := blk_cell (blk_below Hb3.out HB3.out) 1
           have q2 := blk_cell (blk_below Hb3.out HB3.out) 2
           have q3 := blk_cell (blk_below Hb3.out HB3.out) 3
           have q4 := blk_cell (blk_below Hb3.out HB3.out) 4
           have q5 := blk_cell (blk_below Hb3.out HB3.out) 5
           clear hB3 p0 p1 p2 p3 p4 p5 p6 p7 p8 p9 p10 p11 p12)
        | (go_at_call 6
           rw [← HW.out, ← HG3.out, ← HG2.out]
           refine (known_any W1).mono ?_
           rintro r w2 ⟨rfl, hB2⟩
           have HB2 := Lib.hid hB2
           have HBW2 := Lib.hid (HB1.out.trans (hB2.mono HB1.out.size))
           have p0 := blk_cell (blk_below Hb2.out HB2.out) 0
           have p1 := blk_cell (blk_below Hb2.out HB2.out) 1
           have p2 := blk_cell (blk_below Hb2.out HB2.out) 2
           have p3 := blk_cell (blk_below Hb2.out HB2.out) 3
           have p4 := blk_cell (blk_below Hb2.out HB2.out) 4
           have p5 := blk_cell (blk_below Hb2.out HB2.out) 5
           have p6 := blk_cell (blk_below Hb2.out HB2.out) 6
           have p7 := blk_cell (blk_below Hb2.out HB2.out) 7
           have p8 := blk_cell (blk_below Hb2.out HB2.out) 8
           have p9 := blk_cell (blk_below Hb2.out HB2.out) 9
           have p10 := blk_cell (blk_below Hb2.out HB2.out) 10
           have p11 := blk_cell (blk_below Hb2.out HB2.out) 11
           have p12 := blk_cell (blk_below Hb2.out HB2.out) 12
           clear hB2))
    go_ret
    exact ⟨rfl, HB1.out.trans (HB3.out.mono HB1.out.size)⟩
end Go.Proofs.YtkdlghbfplhkpaaDoor
