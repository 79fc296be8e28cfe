/- What the laws of tapes share: a tape beside the arguments' world; known, within. -/
import Derived.Test.YtfnnjgbldojigaaDoorApdW
import Derived.Test.YtfnnjgbldojigaaDoorReplW
import Derived.Test.YtfnnjgbldojigaaDoorCrashW
import Derived.Lib.SlBytesConst
set_option linter.unusedVariables false
set_option linter.unusedSimpArgs false
namespace Go.Proofs.YtfnnjgbldojigaaDoor
open Go.RowKit Go.Proofs.YtfnnjgbldojigaaDoorW.PrintWords Go.Proofs.Mine

/-- A tape behind the world w0. -/
structure TapeIn (w0 : World) (b : Nat) (s : TS) (w : World) (F : Nat → Prop) : Prop where
  at_ : TapeAt w w0.heap.size F b s
  below : Below w0.heap.size w0 w
  laid : Laid w0
  ok : TOk s
theorem TapeIn.pos {w0 : World} {b : Nat} {s : TS} {w : World} {F : Nat → Prop} (h : TapeIn w0 b s w F) : 0 < w0.heap.size := World.block_lt_of_cell? w0 ⟨0, 0, none⟩ h.laid
theorem TapeIn.lw {w0 : World} {b : Nat} {s : TS} {w : World} {F : Nat → Prop} (h : TapeIn w0 b s w F) : Laid w := h.laid.below h.below
theorem TapeIn.to {w0 : World} {b : Nat} {s : TS} {w w1 : World} {F : Nat → Prop} (h : TapeIn w0 b s w F) (hB : Below w.heap.size w w1) : TapeIn w0 b s w1 F :=
  ⟨h.at_.below hB, h.below.trans (hB.mono h.below.size), h.laid, h.ok⟩
/-- What a call leaves: the tape as it is then; what was no tape's own is as it was. -/
def TapeOut (w0 : World) (b : Nat) (s : TS) (w : World) (F : Nat → Prop) (w' : World) : Prop :=
  ∃ F', TapeIn w0 b s w' F' ∧ (∀ k, F' k → F k ∨ w.heap.size ≤ k) ∧ Keep F w w'
theorem TapeIn.out {w0 : World} {b : Nat} {s s' : TS} {w w' : World} {F : Nat → Prop} (h : TapeIn w0 b s w F) (hk : TOk s') (ht : Tape' w w0.heap.size F b s' w') : TapeOut w0 b s' w F w' := by
  obtain ⟨F', h1, h2, h3⟩ := ht
  exact ⟨F', ⟨h1, h.below.trans (h3.to_below h.below.size (fun k hk => (h.at_.2.1 k hk).1)), h.laid, hk⟩, h2, h3⟩
/-- A row that is no tape's own. -/
theorem away {w0 : World} {b : Nat} {s : TS} {w : World} {F : Nat → Prop} (h : TapeIn w0 b s w F) {A : Option Addr} {n : Nat} {l : List Int} (hr : ReadsInt w0 .u8 A n l) : 0 < n → ∀ a, A = some a → ¬ F a.block := by
  intro hp a ha hf
  obtain ⟨ad, ha', hc⟩ := hr.2.2 hp
  rw [ha] at ha'
  injection ha' with ha'
  subst ha'
  have h0 := World.block_lt_of_cell? w0 _ (hc 0 hp)
  rw [add_block] at h0
  have := (h.at_.2.1 _ hf).1
  omega
theorem spend_ok {s : TS} (h : TOk s) (ho : s.ops < 1000000000) : TOk (spendS s) := by
  obtain ⟨r1, r2, ln, sy, l0, l1, o0, o1, od⟩ := h
  unfold spendS
  split
  · split
    · exact ⟨r1, r2, ln, sy, by simp, by simp, o0, o1, .inr rfl⟩
    · exact ⟨r1, r2, ln, sy, by show 0 ≤ s.left - 1; omega, by show s.left - 1 ≤ _; omega, by show 0 ≤ s.ops + 1; omega, by show s.ops + 1 ≤ _; omega, .inl rfl⟩
  · split
    · exact ⟨r1, r2, ln, sy, l0, l1, o0, o1, od⟩
    · exact ⟨r1, r2, ln, sy, l0, l1, by show 0 ≤ s.ops + 1; omega, by show s.ops + 1 ≤ _; omega, od⟩
theorem append_ok {s : TS} {x : List Int} (h : TOk s) (ho : s.ops < 1000000000) : TOk (appendS s x) := by
  unfold appendS
  split
  · rename_i hm
    have hsp := spend_ok h ho
    have hr := spendS_room s
    have hsy := spendS_syn s
    have hlen := (mayE_zero hm).2
    obtain ⟨r1, r2, ln, sy, l0, l1, o0, o1, od⟩ := hsp
    refine ⟨r1, r2, ?_, ?_, l0, l1, o0, o1, od⟩
    · show ((s.l ++ x).length : Int) ≤ (spendS s).room
      rw [hr, List.length_append]; omega
    · show (spendS s).synced ≤ (s.l ++ x).length
      rw [hsy, List.length_append]; have := h.syn; omega
  · exact h
theorem sync_ok {s : TS} (h : TOk s) (ho : s.ops < 1000000000) : TOk (syncS s) := by
  unfold syncS
  have hl := spendS_l s
  split
  · obtain ⟨r1, r2, ln, sy, l0, l1, o0, o1, od⟩ := spend_ok h ho
    split
    · exact ⟨r1, r2, ln, by show s.l.length ≤ (spendS s).l.length; rw [hl]; exact Nat.le_refl _, l0, l1, o0, o1, od⟩
    · exact ⟨r1, r2, ln, sy, l0, l1, o0, o1, od⟩
  · exact h
theorem replace_ok {s : TS} {x : List Int} (h : TOk s) (ho : s.ops < 1000000000) : TOk (replaceS s x) := by
  unfold replaceS
  have hr := spendS_room s
  split
  · rename_i hm
    have hlen := (mayE_zero hm).2
    obtain ⟨r1, r2, ln, sy, l0, l1, o0, o1, od⟩ := spend_ok h ho
    split
    · exact ⟨r1, r2, by show (x.length : Int) ≤ (spendS s).room; rw [hr]; exact hlen, Nat.le_refl _, l0, l1, o0, o1, od⟩
    · exact ⟨r1, r2, ln, sy, l0, l1, o0, o1, od⟩
  · exact h
theorem crashK_le (s : TS) (h : s.synced ≤ s.l.length) (pick : Int) : s.synced + crashK s pick ≤ s.l.length := by
  unfold crashK
  have h1 := Int.emod_lt_of_pos pick (show (0 : Int) < ((s.l.length - s.synced : Nat) : Int) + 1 by omega)
  have h2 := Int.emod_nonneg pick (show ((s.l.length - s.synced : Nat) : Int) + 1 ≠ 0 by omega)
  omega
theorem crash_ok {s : TS} {pick : Int} (h : TOk s) : TOk (crashS s pick) := by
  have hk := crashK_le s h.syn pick
  obtain ⟨r1, r2, ln, sy, l0, l1, o0, o1, od⟩ := h
  refine ⟨r1, r2, ?_, ?_, show (0 : Int) ≤ 0 by decide, show (0 : Int) ≤ 9223372036854775807 by decide, o0, o1, .inl rfl⟩
  · show ((s.l.take (s.synced + crashK s pick)).length : Int) ≤ s.room
    rw [List.length_take]; omega
  · show s.synced + crashK s pick ≤ (s.l.take (s.synced + crashK s pick)).length
    rw [List.length_take]; omega
theorem stop_ok {s : TS} {n : Int} (h : TOk s) (hn : n ≤ 9223372036854775807) : TOk (stopS s n) := by
  obtain ⟨r1, r2, ln, sy, l0, l1, o0, o1, od⟩ := h
  exact ⟨r1, r2, ln, sy, by show 0 ≤ (if n < 0 then (0 : Int) else n); split <;> omega, by show (if n < 0 then (0 : Int) else n) ≤ _; split <;> omega, o0, o1, od⟩
theorem append_in (B : Option Addr) (cx : Nat) (x : List Int) (w0 w : World) (b : Nat) (F : Nat → Prop) (s : TS) (h : TapeIn w0 b s w F) (ho : s.ops < 1000000000) (hx : ReadsInt w .u8 B x.length x) (hxB : 0 < x.length → ∀ a, B = some a → ¬ F a.block) (hxl : x.length ≤ 1000000000) :
    Calls Tryd.prog 48 #[.pointer (some ⟨b, 0, none⟩), .slice B x.length cx] w fun r w' => r = .returned (.int .i64 (appendE s x)) ∧ TapeOut w0 b (appendS s x) w F w' := by
  refine (append_any B cx x w w0.heap.size b F s h.lw h.pos h.ok h.at_ hx hxB hxl).mono ?_
  rintro r w' ⟨rfl, ht⟩
  exact ⟨rfl, h.out (append_ok h.ok ho) ht⟩
theorem append_arg (B : Option Addr) (cx : Nat) (x : List Int) (w0 w : World) (b : Nat) (F : Nat → Prop) (s : TS) (h : TapeIn w0 b s w F) (ho : s.ops < 1000000000) (hx : ReadsInt w0 .u8 B x.length x) (hxl : x.length ≤ 1000000000) :
    Calls Tryd.prog 48 #[.pointer (some ⟨b, 0, none⟩), .slice B x.length cx] w fun r w' => r = .returned (.int .i64 (appendE s x)) ∧ TapeOut w0 b (appendS s x) w F w' :=
  append_in B cx x w0 w b F s h ho (hx.below h.below) (away h hx) hxl
theorem sync_in (w0 w : World) (b : Nat) (F : Nat → Prop) (s : TS) (h : TapeIn w0 b s w F) (ho : s.ops < 1000000000) :
    Calls Tryd.prog 50 #[.pointer (some ⟨b, 0, none⟩)] w fun r w' => r = .returned (.int .i64 (syncE s)) ∧ TapeOut w0 b (syncS s) w F w' := by
  refine (sync_any w w0.heap.size b F s h.lw h.pos h.ok h.at_).mono ?_
  rintro r w' ⟨rfl, ht⟩
  exact ⟨rfl, h.out (sync_ok h.ok ho) ht⟩
theorem replace_in (B : Option Addr) (cx : Nat) (x : List Int) (w0 w : World) (b : Nat) (F : Nat → Prop) (s : TS) (h : TapeIn w0 b s w F) (ho : s.ops < 1000000000) (hx : ReadsInt w .u8 B x.length x) (hxB : 0 < x.length → ∀ a, B = some a → ¬ F a.block) :
    Calls Tryd.prog 51 #[.pointer (some ⟨b, 0, none⟩), .slice B x.length cx] w fun r w' => r = .returned (.int .i64 (replaceE s x)) ∧ TapeOut w0 b (replaceS s x) w F w' := by
  refine (replace_any B cx x w w0.heap.size b F s h.lw h.pos h.ok h.at_ hx hxB).mono ?_
  rintro r w' ⟨rfl, ht⟩
  exact ⟨rfl, h.out (replace_ok h.ok ho) ht⟩
theorem replace_arg (B : Option Addr) (cx : Nat) (x : List Int) (w0 w : World) (b : Nat) (F : Nat → Prop) (s : TS) (h : TapeIn w0 b s w F) (ho : s.ops < 1000000000) (hx : ReadsInt w0 .u8 B x.length x) :
    Calls Tryd.prog 51 #[.pointer (some ⟨b, 0, none⟩), .slice B x.length cx] w fun r w' => r = .returned (.int .i64 (replaceE s x)) ∧ TapeOut w0 b (replaceS s x) w F w' :=
  replace_in B cx x w0 w b F s h ho (hx.below h.below) (away h hx)
theorem crash_in (pick : Int) (w0 w : World) (b : Nat) (F : Nat → Prop) (s : TS) (h : TapeIn w0 b s w F) :
    Calls Tryd.prog 19 #[.pointer (some ⟨b, 0, none⟩), .int .i64 pick] w fun r w' => r = .returned (.int .i64 (crashK s pick : Int)) ∧ TapeOut w0 b (crashS s pick) w F w' := by
  refine (crash_any pick w w0.heap.size b F s h.ok h.at_).mono ?_
  rintro r w' ⟨rfl, ht⟩
  exact ⟨rfl, h.out (crash_ok h.ok) ht⟩
theorem stop_in (n : Int) (w0 w : World) (b : Nat) (F : Nat → Prop) (s : TS) (h : TapeIn w0 b s w F) (hn : n ≤ 9223372036854775807) :
    Calls Tryd.prog 28 #[.pointer (some ⟨b, 0, none⟩), .int .i64 n] w fun r w' => r = .returned (.tuple #[]) ∧ TapeOut w0 b (stopS s n) w F w' := by
  refine (stop_any n w w0.heap.size b F s h.at_).mono ?_
  rintro r w' ⟨rfl, ht⟩
  exact ⟨rfl, h.out (stop_ok h.ok hn) ht⟩
/-- Bytes: what is told, of the length that it has, and as a text. -/
theorem bytes_in (w0 w : World) (b : Nat) (F : Nat → Prop) (s : TS) (h : TapeIn w0 b s w F) :
    Calls Tryd.prog 22 #[.pointer (some ⟨b, 0, none⟩)] w fun r w' => ∃ A c, r = .returned (.slice A s.l.length c) ∧ TapeIn w0 b s w' F ∧ Below w.heap.size w w' ∧ Buf .u8 5 w' w.heap.size (.slice A s.l.length c) s.l := by
  refine (bytes_any w w0.heap.size b F s h.ok h.at_).mono ?_
  rintro r w' ⟨v, rfl, hv, hB⟩
  obtain ⟨A, c, rfl⟩ := hv.slice
  exact ⟨A, c, rfl, h.to hB, hB, hv⟩
theorem str_of {W : World} {A : Option Addr} {c : Nat} {l : List Int} (h : ReadsInt W .u8 A l.length l) : (convert 32 9 (.slice A l.length c)).run Tryd.prog W = .ok (.string (strOfNums l)) W :=
  string_of_reads Tryd.underlying32 Tryd.underlying5 Tryd.underlying9 h
theorem buf_reads {W : World} {base : Nat} {A : Option Addr} {c : Nat} {l : List Int} (h : Buf .u8 5 W base (.slice A l.length c) l) : ReadsInt W .u8 A l.length l := by
  obtain ⟨A', c', he, hr⟩ := h.reads
  injection he with h1 _ _
  subst h1
  exact hr
/-- A new tape behind w0. -/
theorem in_new {w0 w : World} (hg : Laid w0) (hB : Below w0.heap.size w0 w) (room : Int) (h1 : 1 ≤ room) (h2 : room ≤ 1073741824) :
    TapeIn w0 w.heap.size (new0 room) (w.alloc (.cells #[.int .i64 room, .slice none 0 0, .int .i64 0, .int .i64 0, .bool false, .int .i64 0] 78)) (fun k => k = w.heap.size) := by
  have h := tape_new w room
  refine ⟨⟨h.1, fun k hk => ⟨by have := (h.2.1 k hk).1; have := hB.size; omega, (h.2.1 k hk).2⟩, ?_⟩, hB.alloc hB.size _, hg, ⟨h1, h2, by show ((0 : Nat) : Int) ≤ room; omega, Nat.le_refl _, show (0 : Int) ≤ 0 by decide, show (0 : Int) ≤ 9223372036854775807 by decide, show (0 : Int) ≤ 0 by decide, show (0 : Int) ≤ 1000000000 by decide, .inl rfl⟩⟩
  obtain ⟨v, e1, e2, e3⟩ := h.2.2
  exact ⟨v, e1, e2.lower hB.size, e3⟩
theorem lit_reads (W : World) (fr : Nat × Nat) (C : Array Value) (xs : List Int) (h : C.toList = nums .u8 xs) (hx : xs.length ≤ 1000) : ReadsInt (W.alloc (.cells C 5 fr)) .u8 (some ⟨W.heap.size, 0, none⟩) xs.length xs := by
  refine ⟨rfl, by omega, fun _ => ⟨_, rfl, fun i hi => ?_⟩⟩
  have ha : (⟨W.heap.size, 0, none⟩ : Addr).add i = ⟨W.heap.size, i, none⟩ := by unfold Addr.add; split <;> simp_all
  rw [ha, cell_of_row _ W.heap.size i C 5 fr (heap_alloc_new W _)]
  have h4 : C.toList[i]? = (nums .u8 xs)[i]? := by rw [h]
  simpa [nums, List.getD_eq_getElem?_getD, hi] using h4
theorem str_eq (x y : ByteArray) (h : (x == y) = true) : (x == y) = true := h
end Go.Proofs.YtfnnjgbldojigaaDoor
