/- The row that wire reads from: configurations; ParseEntry, ParseConfig. -/
import Derived.Test.YtkdlghbfplhkpaaDoorRdE
set_option linter.unusedVariables false
set_option linter.unusedSimpArgs false
namespace Go.Proofs.YtkdlghbfplhkpaaDoor
open Go.RowKit Go.Proofs.YtkdlghbfplhkpaaDoorW.PrintWords Go.Proofs.Mine

theorem empty8 (w : World) : (w.alloc (.cells #[] 5)).ownsRow w.heap.size 5 1 (.slice (some ⟨w.heap.size, 0, none⟩) 0 0) ([] : List Int).length (nums .u8 []) :=
  ⟨rfl, .inr ⟨w.heap.size, 0, #[], rfl, Nat.le_refl _, heap_alloc_new w _, Nat.le_refl _, by decide, rfl, rfl⟩⟩
set_option maxHeartbeats 400000 in
theorem clone8_any (w : World) (A : Option Addr) (n cap : Nat) (xs : List Int) (hr : ReadsInt w .u8 A n xs) (hn : n ≤ 100000000) :
    Calls Tryd.prog 35 #[.slice A n cap] w fun e w' => ∃ v, e = .returned v ∧ w'.ownsRow w.heap.size 5 1 v n (nums .u8 xs) ∧ Below w.heap.size w w' := by
  have hlen : xs.length = n := hr.1
  have HR := Lib.hid hr
  cases A with
  | none =>
    have hx : xs = [] := by
      rcases Nat.eq_zero_or_pos n with h | h
      · exact List.eq_nil_of_length_eq_zero (by omega)
      · obtain ⟨ad, h1, _⟩ := hr.2.2 h; cases h1
    subst hx
    have hn0 : n = 0 := by simpa using hlen.symm
    subst hn0
    clear hr HR hlen
    have hnil := fun w => Lib.run_eql_slice_nil (P := Tryd.prog) w 24 5 none 0 cap 0 0 Tryd.underlying24
    go_enter Tryd.func35, Tryd.ntmps35
    go_wp2
    go_ret
    exact ⟨_, rfl, own_nil _ _ _ _, Below.refl _ _⟩
  | some ad =>
    have hnil := fun w => Lib.run_eql_slice_nil (P := Tryd.prog) w 24 5 (some ad) n cap 0 0 Tryd.underlying24
    have HLE := Lib.hid hlen
    clear hr hlen
    go_enter Tryd.func35, Tryd.ntmps35
    go_wp2_with (at_builtin; refine print_append_row (w0 := w) w.heap.size rfl _ _ 24 5 .u8 1 (by rfl) Tryd.underlying24 info5 (by decide) (.slice (some ⟨w.heap.size, 0, none⟩) 0 0) [] xs (some ad) n cap (by rfl) (by rfl) (empty8 w) (HR.out.below ((Below.refl _ _).alloc (Nat.le_refl _) _)) ((Below.refl _ _).alloc (Nat.le_refl _) _) (by simp) (by simp; omega) ?_; intro v1 w1 hR1 hB1 hg1 hat1; rw [List.nil_append, HLE.out] at hR1; have HR1 := Lib.hid hR1; have HB1 := Lib.hid hB1; clear hR1 hB1 hg1 hat1)
    go_ret
    exact ⟨_, rfl, HR1.out, HB1.out⟩
/-- A configuration that was read. -/
def RdConf (w : World) (base : Nat) (F : Nat → Prop) (b : Nat) (s : St) (l1 l2 : List Int) (r : Ending) (w' : World) : Prop :=
  ∃ A1 c1 A2 c2 F', r = .returned (.agg #[.slice A1 l1.length c1, .slice A2 l2.length c2]) ∧ w'.ownsRow w.heap.size 3 1 (.slice A1 l1.length c1) l1.length (nums .i64 l1) ∧ w'.ownsRow w.heap.size 3 1 (.slice A2 l2.length c2) l2.length (nums .i64 l2) ∧ RdAt w' base F' b s ∧ (∀ k, F' k → F k ∨ w.heap.size ≤ k) ∧ Keep (fun k => k = b) w w' ∧ (∀ k, (Value.slice A1 l1.length c1).ownBlock = some k → ¬ F' k) ∧ (∀ k, (Value.slice A2 l2.length c2).ownBlock = some k → ¬ F' k)
abbrev zeroConf : Array Value := #[.slice none 0 0, .slice none 0 0]
set_option maxRecDepth 100000 in
set_option maxHeartbeats 4000000 in
theorem aConfig_any (w : World) (base b : Nat) (F : Nat → Prop) (s : St) (h : RdAt w base F b s) :
    Calls Tryd.prog 43 #[.pointer (some ⟨b, 0, none⟩)] w (RdConf w base F b (confS s) (numbersV s 9) (numbersV (numbersS s 9) 9)) := by
  unfold RdConf confS
  obtain ⟨s1, e1⟩ : ∃ z, numbersS s 9 = z := ⟨_, rfl⟩
  rw [e1]
  obtain ⟨s2, e2⟩ : ∃ z, numbersS s1 9 = z := ⟨_, rfl⟩
  rw [e2]
  obtain ⟨l1, v1⟩ : ∃ z, numbersV s 9 = z := ⟨_, rfl⟩
  rw [v1]
  obtain ⟨l2, v2⟩ : ∃ z, numbersV s1 9 = z := ⟨_, rfl⟩
  rw [v2]
  have E1 := Lib.hid e1
  have E2 := Lib.hid e2
  have V1 := Lib.hid v1
  have V2 := Lib.hid v2
  have HH := Lib.hid h
  obtain ⟨gr, hgr⟩ : ∃ gr, gr = w.heap.size := ⟨_, rfl⟩
  have HGR := Lib.hid hgr
  have HNF := Lib.hid (show ¬ F gr from fun hf => by have := (h.2.1 gr hf).2; omega)
  clear e1 e2 v1 v2 h hgr
  go_enter Tryd.func43, Tryd.ntmps43
  go_wp2_with (first
    | (go_at_call 40; refine (numbers_any 9 _ base b F1 s1 H1.out).mono ?_
       rintro r w2 ⟨v, F2, rfl, o2, r2, f2, k2, n2⟩
       rw [V2.out] at o2
       rw [E2.out] at r2
       obtain ⟨A2, c2, rfl⟩ := own_slice o2
       have HZ2 := Lib.hid (k2.blk HZ1.out (fun e => HR1.out (by have e' : gr = b := e; rw [e']; exact H1.out.1)))
       have HR2 := Lib.hid (show ¬ F2 gr from fun hf => by
         rcases f2 gr hf with e | e
         · exact HR1.out e
         · have := blk_lt HZ1.out
           omega)
       have HO1' := Lib.hid (k2.own HO1.out (fun k hk e => HN1.out k hk (by have e' : k = b := e; rw [e']; exact H1.out.1)))
       have HN1' := Lib.hid (not_later f2 HN1.out (own_lt HO1.out))
       have HO2 := Lib.hid (own_less o2 HK1.out.size)
       have HG2 := Lib.hid (show ∀ k, (Value.slice A2 l2.length c2).ownBlock = some k → ¬ k = gr from fun k hk e => by
         have h1 := own_base o2 k hk
         have h2 := blk_lt HZ1.out
         omega)
       have HN2 := Lib.hid n2
       have H2 := Lib.hid r2
       have HF2 := Lib.hid (show ∀ k, F2 k → F k ∨ w.heap.size ≤ k from fun k hk => (f2 k hk).elim (HF1.out k) (fun e => .inr (Nat.le_trans HK1.out.size e)))
       have HK2 := Lib.hid (HK1.out.trans k2 (fun _ h => .inl h))
       have r0 := blk_cell HZ2.out 0
       have r1 := blk_cell HZ2.out 1
       have f0 := fun j => blk_frozen HZ2.out j
       clear o2 r2 f2 k2 n2)
    | (go_at_call 40
       have hB : Below w.heap.size w (w.alloc (.cells zeroConf 30 (0, 0))) := (Below.refl _ w).alloc (Nat.le_refl _) _
       rw [← HGR.out]
       refine (numbers_any 9 _ base b F s (HH.out.below hB)).mono ?_
       rintro r w1 ⟨v, F1, rfl, o1, r1, f1, k1, n1⟩
       rw [V1.out] at o1
       rw [E1.out] at r1
       obtain ⟨A1, c1, rfl⟩ := own_slice o1
       have H1 := Lib.hid r1
       have HF1 := Lib.hid (show ∀ k, F1 k → F k ∨ w.heap.size ≤ k from fun k hk => (f1 k hk).elim .inl (fun e => .inr (Nat.le_trans hB.size e)))
       have HK1 := Lib.hid ((Keep.of_below hB (fun k => k = b)).trans k1 (fun _ h => .inl h))
       have HZ1 := Lib.hid (show w1.heap[gr]? = some (.cells zeroConf 30 (0, 0)) from k1.blk (by rw [HGR.out]; exact heap_alloc_new w _) (fun e => HNF.out (by have e' : gr = b := e; rw [e']; exact HH.out.1)))
       have hsz : (w.alloc (.cells zeroConf 30 (0, 0))).heap.size = w.heap.size + 1 := by simp
       have HR1 := Lib.hid (show ¬ F1 gr from fun hf => by
         rcases f1 gr hf with e | e
         · exact HNF.out e
         · rw [hsz] at e
           have := HGR.out
           omega)
       have HO1 := Lib.hid (own_less o1 hB.size)
       have HG1 := Lib.hid (show ∀ k, (Value.slice A1 l1.length c1).ownBlock = some k → ¬ k = gr from fun k hk e => by
         have h1 := own_base o1 k hk
         rw [hsz] at h1
         have := HGR.out
         omega)
       have HN1 := Lib.hid n1
       clear o1 r1 f1 k1 n1 hB hsz))
  clear r0 r1 f0
  have hf : ((w2.setCell ⟨gr, 0, none⟩ (.slice A1 l1.length c1)).setCell ⟨gr, 1, none⟩ (.slice A2 l2.length c2)) = w2.setCells gr 0 [.slice A1 l1.length c1, .slice A2 l2.length c2] := rfl
  rw [hf]
  clear hf
  have hkr := Keep.setCells (F := fun k => k = gr) gr [.slice A1 l1.length c1, .slice A2 l2.length c2] 0 _ (Keep.refl (fun k => k = gr) w2) (.inl rfl)
  obtain ⟨cur, hc1, hc2, hc3⟩ := setCells_blk [.slice A1 l1.length c1, .slice A2 l2.length c2] 0 w2 zeroConf HZ2.out (Nat.le_refl 2)
  have hcur : cur = #[.slice A1 l1.length c1, .slice A2 l2.length c2] := by
    apply Array.toList_inj.1
    rw [hc3]
    rfl
  subst hcur
  generalize w2.setCells gr 0 [.slice A1 l1.length c1, .slice A2 l2.length c2] = W7 at *
  have r0 := blk_cell hc1 0
  have r1 := blk_cell hc1 1
  simp only [List.getElem?_toArray, List.getElem?_cons_zero, List.getElem?_cons_succ] at r0 r1
  have hKw : Keep (fun k => k = b) w W7 := HK2.out.trans hkr (fun k e => .inr (by have e' : k = gr := e; rw [e', HGR.out]; exact Nat.le_refl _))
  refine bodyPost_ret (v := .agg #[.slice A1 l1.length c1, .slice A2 l2.length c2]) (by simp [results, Tryd.results43, go_sem, r0, r1]) rfl ⟨A1, c1, A2, c2, F2, rfl, hkr.own HO1'.out (fun k hk e => HG1.out k hk e), hkr.own HO2.out (fun k hk e => HG2.out k hk e), H2.out.keep hkr (fun j hj e => HR2.out (e ▸ hj)), HF2.out, hKw, HN1'.out, HN2.out⟩
/-- A row to read from, made anew. -/
theorem rd_new {w w2 : World} {v : Value} {l : List Int} (hb : Byt l) (ho : w2.ownsRow w.heap.size 5 1 v l.length (nums .u8 l)) (hB : Below w.heap.size w w2) :
    RdAt (w2.alloc (.cells #[v, .nilIface] 70 (0, 0))) w.heap.size (fun k => k = w2.heap.size ∨ v.ownBlock = some k) w2.heap.size (l, 0) := by
  obtain ⟨A, c, rfl, hr⟩ := own_reads ho
  have hB2 : Below w2.heap.size w2 (w2.alloc (.cells #[.slice A l.length c, .nilIface] 70 (0, 0))) := (Below.refl _ w2).alloc (Nat.le_refl _) _
  have hle : l.length ≤ c := by
    rcases ho.2 with ⟨h, h2⟩ | ⟨g, cap, cur, h, _, _, h1, _⟩
    · rw [h2]; exact Nat.zero_le _
    · injection h with _ _ h3; omega
  refine ⟨.inl rfl, fun k hk => ?_, hb, A, c, .nilIface, heap_alloc_new w2 _, hle, hr.below hB2, fun a ha => ?_, .inl ⟨rfl, rfl⟩⟩
  · have hs : (w2.alloc (.cells #[.slice A l.length c, .nilIface] 70 (0, 0))).heap.size = w2.heap.size + 1 := by simp
    rcases hk with rfl | hk
    · exact ⟨hB.size, by omega⟩
    · exact ⟨own_base ho k hk, by have := own_lt ho k hk; omega⟩
  · subst ha
    have h1 : (Value.slice (some a) l.length c).ownBlock = some a.block := rfl
    exact ⟨.inr h1, by have := own_lt ho _ h1; omega⟩
/-- What ParseEntry tells. -/
def GotEnt (w : World) (e : Int) (x : Ent) (r : Ending) (w' : World) : Prop :=
  ∃ A c, r = .returned (.tuple #[.agg #[.int .i64 x.kd, .int .i64 x.c, .int .i64 x.q, .string x.data, .slice A x.mem.length c, .int .i64 x.dst], .int .i64 e]) ∧ w'.ownsRow w.heap.size 3 1 (.slice A x.mem.length c) x.mem.length (nums .i64 x.mem) ∧ Below w.heap.size w w'
def GotConf (w : World) (e : Int) (l1 l2 : List Int) (r : Ending) (w' : World) : Prop :=
  ∃ A1 c1 A2 c2, r = .returned (.tuple #[.agg #[.slice A1 l1.length c1, .slice A2 l2.length c2], .int .i64 e]) ∧ w'.ownsRow w.heap.size 3 1 (.slice A1 l1.length c1) l1.length (nums .i64 l1) ∧ w'.ownsRow w.heap.size 3 1 (.slice A2 l2.length c2) l2.length (nums .i64 l2) ∧ Below w.heap.size w w'
set_option maxRecDepth 100000 in
set_option maxHeartbeats 4000000 in
theorem parseEntry_any (w : World) (A : Option Addr) (c : Nat) (l : List Int) (hb : Byt l) (hr : ReadsInt w .u8 A l.length l) (hn : l.length ≤ 100000000) (hg : Laid w) (h0 : 0 < w.heap.size) :
    Calls Tryd.prog 16 #[.slice A l.length c] w (GotEnt w (endE (entS (l, 0))) (if endE (entS (l, 0)) = 0 then entV (l, 0) else ent0)) := by
  have HR := Lib.hid hr
  have HBy := Lib.hid hb
  have HG := Lib.hid hg
  have H0 := Lib.hid h0
  obtain ⟨s6, hs6⟩ : ∃ z, entS (l, 0) = z := ⟨_, rfl⟩
  rw [hs6]
  obtain ⟨x0, hx0⟩ : ∃ z, entV (l, 0) = z := ⟨_, rfl⟩
  rw [hx0]
  have HX0 := Lib.hid hx0
  clear hx0
  obtain ⟨E, hE⟩ : ∃ z, endE s6 = z := ⟨_, rfl⟩
  rw [hE]
  have HS6 := Lib.hid hs6
  have HE := Lib.hid hE
  obtain ⟨gr, hgr⟩ : ∃ gr, gr = w.heap.size := ⟨_, rfl⟩
  have HGR := Lib.hid hgr
  clear hr hb hg h0 hgr hs6 hE
  obtain ⟨zz, hzz⟩ : ∃ z : Array Value, z = zeroEnt := ⟨_, rfl⟩
  by_cases he : E = 0
  · rw [if_pos he]
    subst he
    go_enter Tryd.func16, Tryd.ntmps16
    go_wp2_with (first
      | (go_at_call 44
         generalize hW : w4.alloc _ = W5
         obtain ⟨gx, hgx⟩ : ∃ gx, gx = w4.heap.size := ⟨_, rfl⟩
         rw [← hgx]
         have hB5 : Below w4.heap.size w4 W5 := by rw [← hW]; exact (Below.refl _ w4).alloc (Nat.le_refl _) _
         have hx5 : W5.heap[gx]? = some (.cells #[.int .i64 x0.kd, .int .i64 x0.c, .int .i64 x0.q, .string x0.data, .slice A4 x0.mem.length c4, .int .i64 x0.dst] 27 (0, 0)) := by rw [← hW, hgx]; exact heap_alloc_new w4 _
         have hd5 := H4.out.below hB5
         have hBw5 := HB4.out.trans (hB5.mono HB4.out.size)
         refine (end_any W5 w.heap.size b F4 s6 (HG.out.below hBw5) H0.out hd5).mono ?_
         rintro r w6 ⟨rfl, k6⟩
         rw [HE.out]
         have hgb : ¬ gx = b := fun e => by have := (H4.out.2.1 b H4.out.1).2; omega
         have hx6 := k6.blk hx5 hgb
         have hr6 := k6.blk (blk_below HR4.out hB5) HGB.out
         have HR6 := Lib.hid hr6
         have HB6 := Lib.hid (hBw5.trans (k6.to_below hBw5.size (fun k hk => by have e : k = b := hk; rw [e]; exact (H4.out.2.1 b H4.out.1).1)))
         have HO6 := Lib.hid (k6.own (own_move HO4.out (fun k hk => hB5.block k (own_lt HO4.out k hk))) (fun k hk e => HN4.out k hk (by have e' : k = b := e; rw [e']; exact H4.out.1)))
         have q0 := blk_cell hx6 0
         have q1 := blk_cell hx6 1
         have q2 := blk_cell hx6 2
         have q3 := blk_cell hx6 3
         have q4 := blk_cell hx6 4
         have q5 := blk_cell hx6 5
         have r0 := blk_cell hr6 0
         have r1 := blk_cell hr6 1
         have r2 := blk_cell hr6 2
         have r3 := blk_cell hr6 3
         have r4 := blk_cell hr6 4
         have r5 := blk_cell hr6 5
         have f0 := fun j => blk_frozen hr6 j
         clear hW hgx hB5 hx5 hd5 hBw5 k6 hgb hx6 hr6)
      | (go_at_call 42
         generalize hW : w2.alloc _ = W3
         obtain ⟨b, hbb⟩ : ∃ b, b = w2.heap.size := ⟨_, rfl⟩
         rw [← hbb]
         have r3 := rd_new HBy.out HO2.out HB2.out
         rw [hW, ← hbb] at r3
         have hB3 : Below w2.heap.size w2 W3 := by rw [← hW]; exact (Below.refl _ w2).alloc (Nat.le_refl _) _
         have hBw3 := HB2.out.trans (hB3.mono HB2.out.size)
         have hgb : ¬ gr = b := fun e => by have h1 := HGR.out; have h2 := HS2.out; omega
         have hE4 := anEntry_any W3 w.heap.size b _ (l, 0) r3
         rw [HS6.out, HX0.out] at hE4
         refine hE4.mono ?_
         rintro r w4 ⟨A4, c4, F4, rfl, o4, r4, f4, k4, n4⟩
         have H4 := Lib.hid r4
         have HGB := Lib.hid hgb
         have HR4 := Lib.hid (k4.blk (blk_below HR2.out hB3) hgb)
         have HB4 := Lib.hid (hBw3.trans (k4.to_below hBw3.size (fun k hk => by have e : k = b := hk; rw [e, hbb]; exact HB2.out.size)))
         have hgl : ∀ k, W3.heap.size ≤ k → ¬ k = gr := fun k hk e => by have h1 := HGR.out; have h2 := HS2.out; have h3 := hB3.size; omega
         have HO4 := Lib.hid (own_less o4 hBw3.size)
         have HN4 := Lib.hid n4
         have HA := Lib.hid (fun k (hk : (Value.slice A4 x0.mem.length c4).ownBlock = some k) => hgl k (own_base o4 k hk))
         clear hW hbb r3 hB3 hBw3 r4 f4 k4 hgb hgl o4 n4)
      | (go_at_call 35
         generalize hW : w.alloc _ = W1
         have hB1 : Below w.heap.size w W1 := by rw [← hW]; exact (Below.refl _ w).alloc (Nat.le_refl _) _
         have hr1 : W1.heap[gr]? = some (.cells zeroEnt 27 (0, 0)) := by rw [← hW, HGR.out]; exact heap_alloc_new w _
         have hs1 : W1.heap.size = w.heap.size + 1 := by rw [← hW]; simp
         rw [← HGR.out]
         refine (clone8_any W1 A l.length c l (HR.out.below hB1) hn).mono ?_
         rintro r w2 ⟨v, rfl, o2, B2⟩
         obtain ⟨A2, c2, rfl⟩ := own_slice o2
         have HO2 := Lib.hid (own_less o2 hB1.size)
         have HB2 := Lib.hid (hB1.trans (B2.mono hB1.size))
         have HR2 := Lib.hid (blk_below hr1 B2)
         have HS2 := Lib.hid (show w.heap.size < w2.heap.size from by have := B2.size; omega)
         clear hW hB1 hr1 hs1 o2 B2))
    clear q0 q1 q2 q3 q4 q5 r0 r1 r2 r3 r4 r5 f0
    have hf : ((((((w6.setCell ⟨gr, 0, none⟩ (.int .i64 x0.kd)).setCell ⟨gr, 1, none⟩ (.int .i64 x0.c)).setCell ⟨gr, 2, none⟩ (.int .i64 x0.q)).setCell ⟨gr, 3, none⟩ (.string x0.data)).setCell ⟨gr, 4, none⟩ (.slice A4 x0.mem.length c4)).setCell ⟨gr, 5, none⟩ (.int .i64 x0.dst)) = w6.setCells gr 0 [.int .i64 x0.kd, .int .i64 x0.c, .int .i64 x0.q, .string x0.data, .slice A4 x0.mem.length c4, .int .i64 x0.dst] := rfl
    rw [hf]
    clear hf
    have hkr := Keep.setCells (F := fun k => k = gr) gr [.int .i64 x0.kd, .int .i64 x0.c, .int .i64 x0.q, .string x0.data, .slice A4 x0.mem.length c4, .int .i64 x0.dst] 0 _ (Keep.refl (fun k => k = gr) w6) (.inl rfl)
    obtain ⟨cur, hc1, hc2, hc3⟩ := setCells_blk [.int .i64 x0.kd, .int .i64 x0.c, .int .i64 x0.q, .string x0.data, .slice A4 x0.mem.length c4, .int .i64 x0.dst] 0 w6 zeroEnt HR6.out (Nat.le_refl 6)
    have hcur : cur = #[.int .i64 x0.kd, .int .i64 x0.c, .int .i64 x0.q, .string x0.data, .slice A4 x0.mem.length c4, .int .i64 x0.dst] := by
      apply Array.toList_inj.1
      rw [hc3]
      rfl
    subst hcur
    generalize w6.setCells gr 0 [.int .i64 x0.kd, .int .i64 x0.c, .int .i64 x0.q, .string x0.data, .slice A4 x0.mem.length c4, .int .i64 x0.dst] = W7 at *
    have r0 := blk_cell hc1 0
    have r1 := blk_cell hc1 1
    have r2 := blk_cell hc1 2
    have r3 := blk_cell hc1 3
    have r4 := blk_cell hc1 4
    have r5 := blk_cell hc1 5
    simp only [List.getElem?_toArray, List.getElem?_cons_zero, List.getElem?_cons_succ] at r0 r1 r2 r3 r4 r5
    have hB7 := HB6.out.trans (hkr.to_below HB6.out.size (fun k hk => by have e : k = gr := hk; rw [e, HGR.out]; exact Nat.le_refl _))
    refine bodyPost_ret (v := .tuple #[.agg #[.int .i64 x0.kd, .int .i64 x0.c, .int .i64 x0.q, .string x0.data, .slice A4 x0.mem.length c4, .int .i64 x0.dst], .int .i64 0]) (by simp [results, Tryd.results16, go_sem, r0, r1, r2, r3, r4, r5]) rfl ⟨A4, c4, rfl, hkr.own HO6.out (fun k hk e => HA.out k hk e), hB7⟩
  · rw [if_neg he]
    have heb : (E == 0) = false := beq_eq_false_iff_ne.mpr he
    go_enter Tryd.func16, Tryd.ntmps16
    go_wp2_with (first
      | (go_at_call 44
         generalize hW : w4.alloc _ = W5
         obtain ⟨gx, hgx⟩ : ∃ gx, gx = w4.heap.size := ⟨_, rfl⟩
         rw [← hgx]
         have hB5 : Below w4.heap.size w4 W5 := by rw [← hW]; exact (Below.refl _ w4).alloc (Nat.le_refl _) _
         have hx5 : W5.heap[gx]? = some (.cells #[.int .i64 x0.kd, .int .i64 x0.c, .int .i64 x0.q, .string x0.data, .slice A4 x0.mem.length c4, .int .i64 x0.dst] 27 (0, 0)) := by rw [← hW, hgx]; exact heap_alloc_new w4 _
         have hd5 := H4.out.below hB5
         have hBw5 := HB4.out.trans (hB5.mono HB4.out.size)
         refine (end_any W5 w.heap.size b F4 s6 (HG.out.below hBw5) H0.out hd5).mono ?_
         rintro r w6 ⟨rfl, k6⟩
         rw [HE.out]
         have hgb : ¬ gx = b := fun e => by have := (H4.out.2.1 b H4.out.1).2; omega
         have hx6 := k6.blk hx5 hgb
         have hr6 := k6.blk (blk_below HR4.out hB5) HGB.out
         have HR6 := Lib.hid hr6
         have HB6 := Lib.hid (hBw5.trans (k6.to_below hBw5.size (fun k hk => by have e : k = b := hk; rw [e]; exact (H4.out.2.1 b H4.out.1).1)))
         have HO6 := Lib.hid (k6.own (own_move HO4.out (fun k hk => hB5.block k (own_lt HO4.out k hk))) (fun k hk e => HN4.out k hk (by have e' : k = b := e; rw [e']; exact H4.out.1)))
         have q0 := blk_cell hx6 0
         have q1 := blk_cell hx6 1
         have q2 := blk_cell hx6 2
         have q3 := blk_cell hx6 3
         have q4 := blk_cell hx6 4
         have q5 := blk_cell hx6 5
         have r0 := blk_cell hr6 0
         have r1 := blk_cell hr6 1
         have r2 := blk_cell hr6 2
         have r3 := blk_cell hr6 3
         have r4 := blk_cell hr6 4
         have r5 := blk_cell hr6 5
         have f0 := fun j => blk_frozen hr6 j
         clear hW hgx hB5 hx5 hd5 hBw5 k6 hgb hx6 hr6)
      | (go_at_call 42
         generalize hW : w2.alloc _ = W3
         obtain ⟨b, hbb⟩ : ∃ b, b = w2.heap.size := ⟨_, rfl⟩
         rw [← hbb]
         have r3 := rd_new HBy.out HO2.out HB2.out
         rw [hW, ← hbb] at r3
         have hB3 : Below w2.heap.size w2 W3 := by rw [← hW]; exact (Below.refl _ w2).alloc (Nat.le_refl _) _
         have hBw3 := HB2.out.trans (hB3.mono HB2.out.size)
         have hgb : ¬ gr = b := fun e => by have h1 := HGR.out; have h2 := HS2.out; omega
         have hE4 := anEntry_any W3 w.heap.size b _ (l, 0) r3
         rw [HS6.out, HX0.out] at hE4
         refine hE4.mono ?_
         rintro r w4 ⟨A4, c4, F4, rfl, o4, r4, f4, k4, n4⟩
         have H4 := Lib.hid r4
         have HGB := Lib.hid hgb
         have HR4 := Lib.hid (k4.blk (blk_below HR2.out hB3) hgb)
         have HB4 := Lib.hid (hBw3.trans (k4.to_below hBw3.size (fun k hk => by have e : k = b := hk; rw [e, hbb]; exact HB2.out.size)))
         have hgl : ∀ k, W3.heap.size ≤ k → ¬ k = gr := fun k hk e => by have h1 := HGR.out; have h2 := HS2.out; have h3 := hB3.size; omega
         have HO4 := Lib.hid (own_less o4 hBw3.size)
         have HN4 := Lib.hid n4
         have HA := Lib.hid (fun k (hk : (Value.slice A4 x0.mem.length c4).ownBlock = some k) => hgl k (own_base o4 k hk))
         clear hW hbb r3 hB3 hBw3 r4 f4 k4 hgb hgl o4 n4)
      | (go_at_call 35
         generalize hW : w.alloc _ = W1
         have hB1 : Below w.heap.size w W1 := by rw [← hW]; exact (Below.refl _ w).alloc (Nat.le_refl _) _
         have hr1 : W1.heap[gr]? = some (.cells zeroEnt 27 (0, 0)) := by rw [← hW, HGR.out]; exact heap_alloc_new w _
         have hs1 : W1.heap.size = w.heap.size + 1 := by rw [← hW]; simp
         rw [← HGR.out]
         refine (clone8_any W1 A l.length c l (HR.out.below hB1) hn).mono ?_
         rintro r w2 ⟨v, rfl, o2, B2⟩
         obtain ⟨A2, c2, rfl⟩ := own_slice o2
         have HO2 := Lib.hid (own_less o2 hB1.size)
         have HB2 := Lib.hid (hB1.trans (B2.mono hB1.size))
         have HR2 := Lib.hid (blk_below hr1 B2)
         have HS2 := Lib.hid (show w.heap.size < w2.heap.size from by have := B2.size; omega)
         clear hW hB1 hr1 hs1 o2 B2))
    clear q0 q1 q2 q3 q4 q5 r0 r1 r2 r3 r4 r5 f0
    have hf : ((((((w6.setCell ⟨gr, 0, none⟩ (.int .i64 0)).setCell ⟨gr, 1, none⟩ (.int .i64 0)).setCell ⟨gr, 2, none⟩ (.int .i64 0)).setCell ⟨gr, 3, none⟩ (.string ⟨#[]⟩)).setCell ⟨gr, 4, none⟩ (.slice none 0 0)).setCell ⟨gr, 5, none⟩ (.int .i64 0)) = w6.setCells gr 0 [.int .i64 0, .int .i64 0, .int .i64 0, .string ⟨#[]⟩, .slice none 0 0, .int .i64 0] := rfl
    rw [hf]
    clear hf
    have hkr := Keep.setCells (F := fun k => k = gr) gr [.int .i64 0, .int .i64 0, .int .i64 0, .string ⟨#[]⟩, .slice none 0 0, .int .i64 0] 0 _ (Keep.refl (fun k => k = gr) w6) (.inl rfl)
    obtain ⟨cur, hc1, hc2, hc3⟩ := setCells_blk [.int .i64 0, .int .i64 0, .int .i64 0, .string ⟨#[]⟩, .slice none 0 0, .int .i64 0] 0 w6 zeroEnt HR6.out (Nat.le_refl 6)
    have hcur : cur = #[.int .i64 0, .int .i64 0, .int .i64 0, .string ⟨#[]⟩, .slice none 0 0, .int .i64 0] := by
      apply Array.toList_inj.1
      rw [hc3]
      rfl
    subst hcur
    generalize w6.setCells gr 0 [.int .i64 0, .int .i64 0, .int .i64 0, .string ⟨#[]⟩, .slice none 0 0, .int .i64 0] = W7 at *
    have r0 := blk_cell hc1 0
    have r1 := blk_cell hc1 1
    have r2 := blk_cell hc1 2
    have r3 := blk_cell hc1 3
    have r4 := blk_cell hc1 4
    have r5 := blk_cell hc1 5
    simp only [List.getElem?_toArray, List.getElem?_cons_zero, List.getElem?_cons_succ] at r0 r1 r2 r3 r4 r5
    have hB7 := HB6.out.trans (hkr.to_below HB6.out.size (fun k hk => by have e : k = gr := hk; rw [e, HGR.out]; exact Nat.le_refl _))
    refine bodyPost_ret (v := .tuple #[.agg #[.int .i64 0, .int .i64 0, .int .i64 0, .string ⟨#[]⟩, .slice none 0 0, .int .i64 0], .int .i64 E]) (by simp [results, Tryd.results16, go_sem, r0, r1, r2, r3, r4, r5]) rfl ⟨none, 0, rfl, own_nil _ _ _ _, hB7⟩
set_option maxRecDepth 100000 in
set_option maxHeartbeats 4000000 in
theorem parseConfig_any (w : World) (A : Option Addr) (c : Nat) (l : List Int) (hb : Byt l) (hr : ReadsInt w .u8 A l.length l) (hn : l.length ≤ 100000000) (hg : Laid w) (h0 : 0 < w.heap.size) :
    Calls Tryd.prog 21 #[.slice A l.length c] w (GotConf w (endE (confS (l, 0))) (if endE (confS (l, 0)) = 0 then numbersV (l, 0) 9 else []) (if endE (confS (l, 0)) = 0 then numbersV (numbersS (l, 0) 9) 9 else [])) := by
  have HR := Lib.hid hr
  have HBy := Lib.hid hb
  have HG := Lib.hid hg
  have H0 := Lib.hid h0
  obtain ⟨s6, hs6⟩ : ∃ z, confS (l, 0) = z := ⟨_, rfl⟩
  rw [hs6]
  obtain ⟨x0, hx0⟩ : ∃ z, numbersV (l, 0) 9 = z := ⟨_, rfl⟩
  rw [hx0]
  have HX0 := Lib.hid hx0
  clear hx0
  obtain ⟨x1, hx1⟩ : ∃ z, numbersV (numbersS (l, 0) 9) 9 = z := ⟨_, rfl⟩
  rw [hx1]
  have HX1 := Lib.hid hx1
  clear hx1
  obtain ⟨E, hE⟩ : ∃ z, endE s6 = z := ⟨_, rfl⟩
  rw [hE]
  have HS6 := Lib.hid hs6
  have HE := Lib.hid hE
  obtain ⟨gr, hgr⟩ : ∃ gr, gr = w.heap.size := ⟨_, rfl⟩
  have HGR := Lib.hid hgr
  clear hr hb hg h0 hgr hs6 hE
  obtain ⟨zz, hzz⟩ : ∃ z : Array Value, z = zeroConf := ⟨_, rfl⟩
  by_cases he : E = 0
  · rw [if_pos he, if_pos he]
    subst he
    go_enter Tryd.func21, Tryd.ntmps21
    go_wp2_with (first
      | (go_at_call 44
         generalize hW : w4.alloc _ = W5
         obtain ⟨gx, hgx⟩ : ∃ gx, gx = w4.heap.size := ⟨_, rfl⟩
         rw [← hgx]
         have hB5 : Below w4.heap.size w4 W5 := by rw [← hW]; exact (Below.refl _ w4).alloc (Nat.le_refl _) _
         have hx5 : W5.heap[gx]? = some (.cells #[.slice A4 x0.length c4, .slice A5 x1.length c5] 30 (0, 0)) := by rw [← hW, hgx]; exact heap_alloc_new w4 _
         have hd5 := H4.out.below hB5
         have hBw5 := HB4.out.trans (hB5.mono HB4.out.size)
         refine (end_any W5 w.heap.size b F4 s6 (HG.out.below hBw5) H0.out hd5).mono ?_
         rintro r w6 ⟨rfl, k6⟩
         rw [HE.out]
         have hgb : ¬ gx = b := fun e => by have := (H4.out.2.1 b H4.out.1).2; omega
         have hx6 := k6.blk hx5 hgb
         have hr6 := k6.blk (blk_below HR4.out hB5) HGB.out
         have HR6 := Lib.hid hr6
         have HB6 := Lib.hid (hBw5.trans (k6.to_below hBw5.size (fun k hk => by have e : k = b := hk; rw [e]; exact (H4.out.2.1 b H4.out.1).1)))
         have HO6 := Lib.hid (k6.own (own_move HO4.out (fun k hk => hB5.block k (own_lt HO4.out k hk))) (fun k hk e => HN4.out k hk (by have e' : k = b := e; rw [e']; exact H4.out.1)))
         have HP6 := Lib.hid (k6.own (own_move HP4.out (fun k hk => hB5.block k (own_lt HP4.out k hk))) (fun k hk e => HN5.out k hk (by have e' : k = b := e; rw [e']; exact H4.out.1)))
         have q0 := blk_cell hx6 0
         have q1 := blk_cell hx6 1
         have r0 := blk_cell hr6 0
         have r1 := blk_cell hr6 1
         have f0 := fun j => blk_frozen hr6 j
         clear hW hgx hB5 hx5 hd5 hBw5 k6 hgb hx6 hr6)
      | (go_at_call 43
         generalize hW : w2.alloc _ = W3
         obtain ⟨b, hbb⟩ : ∃ b, b = w2.heap.size := ⟨_, rfl⟩
         rw [← hbb]
         have r3 := rd_new HBy.out HO2.out HB2.out
         rw [hW, ← hbb] at r3
         have hB3 : Below w2.heap.size w2 W3 := by rw [← hW]; exact (Below.refl _ w2).alloc (Nat.le_refl _) _
         have hBw3 := HB2.out.trans (hB3.mono HB2.out.size)
         have hgb : ¬ gr = b := fun e => by have h1 := HGR.out; have h2 := HS2.out; omega
         have hE4 := aConfig_any W3 w.heap.size b _ (l, 0) r3
         rw [HS6.out, HX0.out, HX1.out] at hE4
         refine hE4.mono ?_
         rintro r w4 ⟨A4, c4, A5, c5, F4, rfl, o4, o5, r4, f4, k4, n4, n5⟩
         have H4 := Lib.hid r4
         have HGB := Lib.hid hgb
         have HR4 := Lib.hid (k4.blk (blk_below HR2.out hB3) hgb)
         have HB4 := Lib.hid (hBw3.trans (k4.to_below hBw3.size (fun k hk => by have e : k = b := hk; rw [e, hbb]; exact HB2.out.size)))
         have hgl : ∀ k, W3.heap.size ≤ k → ¬ k = gr := fun k hk e => by have h1 := HGR.out; have h2 := HS2.out; have h3 := hB3.size; omega
         have HO4 := Lib.hid (own_less o4 hBw3.size)
         have HN4 := Lib.hid n4
         have HA := Lib.hid (fun k (hk : (Value.slice A4 x0.length c4).ownBlock = some k) => hgl k (own_base o4 k hk))
         have HP4 := Lib.hid (own_less o5 hBw3.size)
         have HN5 := Lib.hid n5
         have HC := Lib.hid (fun k (hk : (Value.slice A5 x1.length c5).ownBlock = some k) => hgl k (own_base o5 k hk))
         clear hW hbb r3 hB3 hBw3 r4 f4 k4 hgb hgl o4 n4 o5 n5)
      | (go_at_call 35
         generalize hW : w.alloc _ = W1
         have hB1 : Below w.heap.size w W1 := by rw [← hW]; exact (Below.refl _ w).alloc (Nat.le_refl _) _
         have hr1 : W1.heap[gr]? = some (.cells zeroConf 30 (0, 0)) := by rw [← hW, HGR.out]; exact heap_alloc_new w _
         have hs1 : W1.heap.size = w.heap.size + 1 := by rw [← hW]; simp
         rw [← HGR.out]
         refine (clone8_any W1 A l.length c l (HR.out.below hB1) hn).mono ?_
         rintro r w2 ⟨v, rfl, o2, B2⟩
         obtain ⟨A2, c2, rfl⟩ := own_slice o2
         have HO2 := Lib.hid (own_less o2 hB1.size)
         have HB2 := Lib.hid (hB1.trans (B2.mono hB1.size))
         have HR2 := Lib.hid (blk_below hr1 B2)
         have HS2 := Lib.hid (show w.heap.size < w2.heap.size from by have := B2.size; omega)
         clear hW hB1 hr1 hs1 o2 B2))
    clear q0 q1 r0 r1 f0
    have hf : ((w6.setCell ⟨gr, 0, none⟩ (.slice A4 x0.length c4)).setCell ⟨gr, 1, none⟩ (.slice A5 x1.length c5)) = w6.setCells gr 0 [.slice A4 x0.length c4, .slice A5 x1.length c5] := rfl
    rw [hf]
    clear hf
    have hkr := Keep.setCells (F := fun k => k = gr) gr [.slice A4 x0.length c4, .slice A5 x1.length c5] 0 _ (Keep.refl (fun k => k = gr) w6) (.inl rfl)
    obtain ⟨cur, hc1, hc2, hc3⟩ := setCells_blk [.slice A4 x0.length c4, .slice A5 x1.length c5] 0 w6 zeroConf HR6.out (Nat.le_refl 2)
    have hcur : cur = #[.slice A4 x0.length c4, .slice A5 x1.length c5] := by
      apply Array.toList_inj.1
      rw [hc3]
      rfl
    subst hcur
    generalize w6.setCells gr 0 [.slice A4 x0.length c4, .slice A5 x1.length c5] = W7 at *
    have r0 := blk_cell hc1 0
    have r1 := blk_cell hc1 1
    simp only [List.getElem?_toArray, List.getElem?_cons_zero, List.getElem?_cons_succ] at r0 r1
    have hB7 := HB6.out.trans (hkr.to_below HB6.out.size (fun k hk => by have e : k = gr := hk; rw [e, HGR.out]; exact Nat.le_refl _))
    refine bodyPost_ret (v := .tuple #[.agg #[.slice A4 x0.length c4, .slice A5 x1.length c5], .int .i64 0]) (by simp [results, Tryd.results21, go_sem, r0, r1]) rfl ⟨A4, c4, A5, c5, rfl, hkr.own HO6.out (fun k hk e => HA.out k hk e), hkr.own HP6.out (fun k hk e => HC.out k hk e), hB7⟩
  · rw [if_neg he, if_neg he]
    have heb : (E == 0) = false := beq_eq_false_iff_ne.mpr he
    go_enter Tryd.func21, Tryd.ntmps21
    go_wp2_with (first
      | (go_at_call 44
         generalize hW : w4.alloc _ = W5
         obtain ⟨gx, hgx⟩ : ∃ gx, gx = w4.heap.size := ⟨_, rfl⟩
         rw [← hgx]
         have hB5 : Below w4.heap.size w4 W5 := by rw [← hW]; exact (Below.refl _ w4).alloc (Nat.le_refl _) _
         have hx5 : W5.heap[gx]? = some (.cells #[.slice A4 x0.length c4, .slice A5 x1.length c5] 30 (0, 0)) := by rw [← hW, hgx]; exact heap_alloc_new w4 _
         have hd5 := H4.out.below hB5
         have hBw5 := HB4.out.trans (hB5.mono HB4.out.size)
         refine (end_any W5 w.heap.size b F4 s6 (HG.out.below hBw5) H0.out hd5).mono ?_
         rintro r w6 ⟨rfl, k6⟩
         rw [HE.out]
         have hgb : ¬ gx = b := fun e => by have := (H4.out.2.1 b H4.out.1).2; omega
         have hx6 := k6.blk hx5 hgb
         have hr6 := k6.blk (blk_below HR4.out hB5) HGB.out
         have HR6 := Lib.hid hr6
         have HB6 := Lib.hid (hBw5.trans (k6.to_below hBw5.size (fun k hk => by have e : k = b := hk; rw [e]; exact (H4.out.2.1 b H4.out.1).1)))
         have HO6 := Lib.hid (k6.own (own_move HO4.out (fun k hk => hB5.block k (own_lt HO4.out k hk))) (fun k hk e => HN4.out k hk (by have e' : k = b := e; rw [e']; exact H4.out.1)))
         have HP6 := Lib.hid (k6.own (own_move HP4.out (fun k hk => hB5.block k (own_lt HP4.out k hk))) (fun k hk e => HN5.out k hk (by have e' : k = b := e; rw [e']; exact H4.out.1)))
         have q0 := blk_cell hx6 0
         have q1 := blk_cell hx6 1
         have r0 := blk_cell hr6 0
         have r1 := blk_cell hr6 1
         have f0 := fun j => blk_frozen hr6 j
         clear hW hgx hB5 hx5 hd5 hBw5 k6 hgb hx6 hr6)
      | (go_at_call 43
         generalize hW : w2.alloc _ = W3
         obtain ⟨b, hbb⟩ : ∃ b, b = w2.heap.size := ⟨_, rfl⟩
         rw [← hbb]
         have r3 := rd_new HBy.out HO2.out HB2.out
         rw [hW, ← hbb] at r3
         have hB3 : Below w2.heap.size w2 W3 := by rw [← hW]; exact (Below.refl _ w2).alloc (Nat.le_refl _) _
         have hBw3 := HB2.out.trans (hB3.mono HB2.out.size)
         have hgb : ¬ gr = b := fun e => by have h1 := HGR.out; have h2 := HS2.out; omega
         have hE4 := aConfig_any W3 w.heap.size b _ (l, 0) r3
         rw [HS6.out, HX0.out, HX1.out] at hE4
         refine hE4.mono ?_
         rintro r w4 ⟨A4, c4, A5, c5, F4, rfl, o4, o5, r4, f4, k4, n4, n5⟩
         have H4 := Lib.hid r4
         have HGB := Lib.hid hgb
         have HR4 := Lib.hid (k4.blk (blk_below HR2.out hB3) hgb)
         have HB4 := Lib.hid (hBw3.trans (k4.to_below hBw3.size (fun k hk => by have e : k = b := hk; rw [e, hbb]; exact HB2.out.size)))
         have hgl : ∀ k, W3.heap.size ≤ k → ¬ k = gr := fun k hk e => by have h1 := HGR.out; have h2 := HS2.out; have h3 := hB3.size; omega
         have HO4 := Lib.hid (own_less o4 hBw3.size)
         have HN4 := Lib.hid n4
         have HA := Lib.hid (fun k (hk : (Value.slice A4 x0.length c4).ownBlock = some k) => hgl k (own_base o4 k hk))
         have HP4 := Lib.hid (own_less o5 hBw3.size)
         have HN5 := Lib.hid n5
         have HC := Lib.hid (fun k (hk : (Value.slice A5 x1.length c5).ownBlock = some k) => hgl k (own_base o5 k hk))
         clear hW hbb r3 hB3 hBw3 r4 f4 k4 hgb hgl o4 n4 o5 n5)
      | (go_at_call 35
         generalize hW : w.alloc _ = W1
         have hB1 : Below w.heap.size w W1 := by rw [← hW]; exact (Below.refl _ w).alloc (Nat.le_refl _) _
         have hr1 : W1.heap[gr]? = some (.cells zeroConf 30 (0, 0)) := by rw [← hW, HGR.out]; exact heap_alloc_new w _
         have hs1 : W1.heap.size = w.heap.size + 1 := by rw [← hW]; simp
         rw [← HGR.out]
         refine (clone8_any W1 A l.length c l (HR.out.below hB1) hn).mono ?_
         rintro r w2 ⟨v, rfl, o2, B2⟩
         obtain ⟨A2, c2, rfl⟩ := own_slice o2
         have HO2 := Lib.hid (own_less o2 hB1.size)
         have HB2 := Lib.hid (hB1.trans (B2.mono hB1.size))
         have HR2 := Lib.hid (blk_below hr1 B2)
         have HS2 := Lib.hid (show w.heap.size < w2.heap.size from by have := B2.size; omega)
         clear hW hB1 hr1 hs1 o2 B2))
    clear q0 q1 r0 r1 f0
    have hf : ((w6.setCell ⟨gr, 0, none⟩ (.slice none 0 0)).setCell ⟨gr, 1, none⟩ (.slice none 0 0)) = w6.setCells gr 0 [.slice none 0 0, .slice none 0 0] := rfl
    rw [hf]
    clear hf
    have hkr := Keep.setCells (F := fun k => k = gr) gr [.slice none 0 0, .slice none 0 0] 0 _ (Keep.refl (fun k => k = gr) w6) (.inl rfl)
    obtain ⟨cur, hc1, hc2, hc3⟩ := setCells_blk [.slice none 0 0, .slice none 0 0] 0 w6 zeroConf HR6.out (Nat.le_refl 2)
    have hcur : cur = #[.slice none 0 0, .slice none 0 0] := by
      apply Array.toList_inj.1
      rw [hc3]
      rfl
    subst hcur
    generalize w6.setCells gr 0 [.slice none 0 0, .slice none 0 0] = W7 at *
    have r0 := blk_cell hc1 0
    have r1 := blk_cell hc1 1
    simp only [List.getElem?_toArray, List.getElem?_cons_zero, List.getElem?_cons_succ] at r0 r1
    have hB7 := HB6.out.trans (hkr.to_below HB6.out.size (fun k hk => by have e : k = gr := hk; rw [e, HGR.out]; exact Nat.le_refl _))
    refine bodyPost_ret (v := .tuple #[.agg #[.slice none 0 0, .slice none 0 0], .int .i64 E]) (by simp [results, Tryd.results21, go_sem, r0, r1]) rfl ⟨none, 0, none, 0, rfl, own_nil _ _ _ _, own_nil _ _ _ _, hB7⟩
end Go.Proofs.YtkdlghbfplhkpaaDoor
