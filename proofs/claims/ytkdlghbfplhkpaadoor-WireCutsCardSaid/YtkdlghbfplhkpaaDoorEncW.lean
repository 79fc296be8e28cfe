/- EncodeEntry, EncodeConfig. -/
import Derived.Test.YtkdlghbfplhkpaaDoorEntW
set_option linter.unusedVariables false
set_option linter.unusedSimpArgs false
namespace Go.Proofs.YtkdlghbfplhkpaaDoor
open Go.RowKit Go.Proofs.YtkdlghbfplhkpaaDoorW.PrintWords Go.Proofs.Mine

/-- What an Encode tells. -/
def Told (w : World) (bs : List Int) (er : Int) (r : Ending) (w' : World) : Prop :=
  ∃ v, r = .returned (.tuple #[v, .int .i64 er]) ∧ Below w.heap.size w w' ∧ (er = 0 → w'.ownsRow w.heap.size 5 1 v bs.length (nums .u8 bs)) ∧ (er ≠ 0 → v = .slice none 0 0)
theorem at_fresh {w W : World} {b : Nat} (hb : b = W.heap.size) (h : Below w.heap.size w W) : At w (W.alloc (.cells #[.slice none 0 0, .nilIface] 70)) (fun k => k = b) b [] 0 := by
  subst hb
  refine ⟨⟨rfl, fun k hk => by subst hk; exact ⟨h.size, by simp⟩, .slice none 0 0, .nilIface, heap_alloc_new W _, own_nil _ _ _ _, (fun k hk => by cases hk), .inl ⟨rfl, rfl⟩⟩, h.alloc h.size _⟩
/-- A row that is written beside a box g. -/
structure BoxSt (w0 : World) (o : Obj) (w : World) (F : Nat → Prop) (b g : Nat) (bs : List Int) (er : Int) : Prop where
  at_ : At w0 w F b bs er
  box : w.heap[g]? = some o
  not : ¬ F g
theorem BoxSt.step {w0 : World} {o : Obj} {w w1 : World} {F : Nat → Prop} {b g : Nat} {bs bs' : List Int} {er er' : Int} (h : BoxSt w0 o w F b g bs er) (k : Row' w w0.heap.size F b bs' er' w1) : ∃ F', BoxSt w0 o w1 F' b g bs' er' := by
  obtain ⟨F', h1, h2, h3⟩ := h.at_.step k
  exact ⟨F', h1, h3.blk h.box h.not, new_not h2 h.not (blk_lt h.box)⟩
theorem BoxSt.alloc {w0 : World} {o : Obj} {w : World} {F : Nat → Prop} {b g : Nat} {bs : List Int} {er : Int} (h : BoxSt w0 o w F b g bs er) (o1 : Obj) : BoxSt w0 o (w.alloc o1) F b g bs er :=
  ⟨h.at_.alloc o1, blk_alloc h.box o1, h.not⟩
theorem told_of {w0 w w' : World} {F : Nat → Prop} {b : Nat} {bs : List Int} {er : Int} {v : Value} (h : At w0 w F b bs er) (hB : Below w.heap.size w w') (ho : er = 0 → w'.ownsRow w0.heap.size 5 1 v bs.length (nums .u8 bs)) (hn : er ≠ 0 → v = .slice none 0 0) :
    Told w0 bs er (.returned (.tuple #[v, .int .i64 er])) w' := ⟨v, rfl, h.below.trans (hB.mono h.below.size), ho, hn⟩
set_option maxRecDepth 100000 in
set_option maxHeartbeats 1000000 in
theorem encEntry_any (x : Ent) (A : Option Addr) (cap : Nat) (w : World) (hg0 : Laid w) (hr : ReadsInt w .i64 A x.mem.length x.mem) (hl : x.data.size + 8 * x.mem.length ≤ 600000) :
    Calls Tryd.prog 8 #[.agg #[.int .i64 x.kd, .int .i64 x.c, .int .i64 x.q, .string x.data, .slice A x.mem.length cap, .int .i64 x.dst]] w fun r w' => Told w (entB x) (entE x) r w' := by
  have HF := Lib.hid (at_fresh (w := w) (b := w.heap.size + 1) (by simp) ((Below.refl w.heap.size w).alloc (Nat.le_refl _) (.cells #[.int .i64 x.kd, .int .i64 x.c, .int .i64 x.q, .string x.data, .slice A x.mem.length cap, .int .i64 x.dst] 27)))
  have HR := Lib.hid hr
  have HG := Lib.hid hg0
  clear hr hg0
  have hl2 : ([] : List Int).length + x.data.size + 8 * x.mem.length ≤ 700000 := by simp only [List.length_nil]; omega
  have he : orE 0 (entE x) = entE x := rfl
  go_enter Tryd.func8, Tryd.ntmps8
  go_wp2_with (first
    | (go_at_call 27
       refine (entry_any w _ _ _ [] 0 x A cap HF.out HR.out hl2).mono ?_
       rintro r w2 ⟨rfl, h2⟩
       obtain ⟨F2, hat2, _, _⟩ := HF.out.step h2
       rw [List.nil_append, he] at hat2
       have H2 := Lib.hid hat2
       clear h2 hat2)
    | (go_at_call 28
       refine (told_any w2 _ _ F2 _ _ (HG.out.below H2.out.below) H2.out.row).mono ?_
       rintro r w3 ⟨v, rfl, hB, ho, hn⟩
       have H3 := Lib.hid (told_of H2.out hB ho hn)
       clear hB ho hn))
  go_ret2
  exact H3.out
set_option maxRecDepth 100000 in
set_option maxHeartbeats 1000000 in
theorem encConfig_any (A1 A2 : Option Addr) (c1 c2 : Nat) (l1 l2 : List Int) (w : World) (hg0 : Laid w) (h1 : ReadsInt w .i64 A1 l1.length l1) (h2 : ReadsInt w .i64 A2 l2.length l2) (hl : 8 * l1.length + 8 * l2.length ≤ 800000) :
    Calls Tryd.prog 10 #[.agg #[.slice A1 l1.length c1, .slice A2 l2.length c2]] w fun r w' => Told w ([(l1.length : Int) % 256] ++ l1.flatMap int8 ++ ([(l2.length : Int) % 256] ++ l2.flatMap int8)) (orE (manyE l1.length 9) (manyE l2.length 9)) r w' := by
  have HF := Lib.hid (at_fresh (w := w) (b := w.heap.size + 1) (by simp) ((Below.refl w.heap.size w).alloc (Nat.le_refl _) (.cells #[.slice A1 l1.length c1, .slice A2 l2.length c2] 30)))
  have R1 := Lib.hid h1
  have R2 := Lib.hid h2
  have HG := Lib.hid hg0
  clear h1 h2 hg0
  have hl2 : ([] : List Int).length + 8 * l1.length + 8 * l2.length ≤ 800000 := by simp only [List.length_nil]; omega
  have he : ∀ x, orE 0 x = x := fun _ => rfl
  go_enter Tryd.func10, Tryd.ntmps10
  go_wp2_with (first
    | (go_at_call 34
       refine (config_any w _ _ _ [] 0 A1 A2 c1 c2 l1 l2 HF.out R1.out R2.out hl2).mono ?_
       rintro r w2 ⟨rfl, h2⟩
       obtain ⟨F2, hat2, _, _⟩ := HF.out.step h2
       rw [List.nil_append, he] at hat2
       have H2 := Lib.hid hat2
       clear h2 hat2)
    | (go_at_call 28
       refine (told_any w2 _ _ F2 _ _ (HG.out.below H2.out.below) H2.out.row).mono ?_
       rintro r w3 ⟨v, rfl, hB, ho, hn⟩
       have H3 := Lib.hid (told_of H2.out hB ho hn)
       clear hB ho hn))
  go_ret2
  exact H3.out
end Go.Proofs.YtkdlghbfplhkpaaDoor
