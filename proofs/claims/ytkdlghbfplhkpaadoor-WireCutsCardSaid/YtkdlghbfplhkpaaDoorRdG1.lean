/- ParseMsg, its second and third ways. -/
import Derived.Test.YtkdlghbfplhkpaaDoorRdG
set_option linter.unusedVariables false
set_option linter.unusedSimpArgs false
namespace Go.Proofs.YtkdlghbfplhkpaaDoor
open Go.RowKit Go.Proofs.YtkdlghbfplhkpaaDoorW.PrintWords Go.Proofs.Mine

set_option maxRecDepth 100000 in
set_option maxHeartbeats 4000000 in
theorem parseMsg_1 (w : World) (A : Option Addr) (c : Nat) (l : List Int) (hb : Byt l) (hr : ReadsInt w .u8 A l.length l) (hn : l.length ≤ 100000000) (hg : Laid w) (h0 : 0 < w.heap.size)
    (s1 s2 s3 s4 s5 s6 s7 s8 s9 s10 s11 s12 s13 : St) (n : Nat) (v0 v1 v2 kd a4 a5 a6 a7 E : Int) (terms old new : List Int) (ents : List Ent) (hn64 : n ≤ 64)
    (E1 : RowKit.Hid (numS (l, 0) = s1)) (E2 : RowKit.Hid (numS s1 = s2)) (E3 : RowKit.Hid (numS s2 = s3)) (E4 : RowKit.Hid (sortS s3 1 15 = s4)) (E5 : RowKit.Hid (numS s4 = s5)) (E6 : RowKit.Hid (numS s5 = s6)) (E7 : RowKit.Hid (numS s6 = s7)) (E8 : RowKit.Hid (numS s7 = s8)) (E9 : RowKit.Hid (oneS s8 = s9))
    (E10 : RowKit.Hid (numbersS s9 64 = s10)) (E11 : RowKit.Hid (countS s10 64 = s11)) (E12 : RowKit.Hid (entsL n s11 = (ents, s12))) (E13 : RowKit.Hid (confS s12 = s13)) (EE : RowKit.Hid (endE s13 = E))
    (V0 : RowKit.Hid (numV (l, 0) = v0)) (V1 : RowKit.Hid (numV s1 = v1)) (V2 : RowKit.Hid (numV s2 = v2)) (V3 : RowKit.Hid (oneV s3 = kd)) (V4 : RowKit.Hid (numV s4 = a4)) (V5 : RowKit.Hid (numV s5 = a5)) (V6 : RowKit.Hid (numV s6 = a6)) (V7 : RowKit.Hid (numV s7 = a7)) (Y : RowKit.Hid (oneV s8 = 1))
    (VT : RowKit.Hid (numbersV s9 64 = terms)) (VC : RowKit.Hid (countV s10 64 = (n : Int))) (VO : RowKit.Hid (numbersV s12 9 = old)) (VN : RowKit.Hid (numbersV (numbersS s12 9) 9 = new)) (M : Msg) (HM : RowKit.Hid (M = if E = 0 then ⟨v0, v1, v2, kd, a4, a5, a6, a7, true, terms, ents, old, new⟩ else msg0)) :
    Calls Tryd.prog 15 #[.slice A l.length c] w (GotMsg w E M) := by
  have HR := Lib.hid hr
  have HBy := Lib.hid hb
  have HG := Lib.hid hg
  have H0 := Lib.hid h0
  obtain ⟨gr, hgr⟩ : ∃ gr, gr = w.heap.size := ⟨_, rfl⟩
  have HGR := Lib.hid hgr
  clear hr hb hg h0 hgr
  go_enter Tryd.func15, Tryd.ntmps15
  go_wp2_with (first
    | (go_at_call 41; refine (count_any 64 _ w.heap.size b F10 s10 B10.out.rd).mono ?_
       rintro r w11 ⟨rfl, F11, r11, f11, k11⟩
       rw [VC.out]
       rw [E11.out] at r11
       have B11 := Lib.hid (B10.out.after r11 f11 k11)
       have HT11 := Lib.hid (k11.own HT10.out (fun k hk e => (HA.out k hk).1 e))
       clear r11 f11 k11)
    | (go_at_call 40; refine (numbers_any 64 _ w.heap.size b F9 s9 B9.out.rd).mono ?_
       rintro r w10 ⟨v, F10, rfl, o10, r10, f10, k10, n10⟩
       rw [VT.out] at o10
       rw [E10.out] at r10
       obtain ⟨At, ct, rfl⟩ := own_slice o10
       have b10 := B9.out.after r10 f10 k10
       have q9 := blk_cell b10.be 9
       have fq9 := blk_frozen b10.be 9
       have B10 := Lib.hid (b10.store 9 (.slice At terms.length ct) (cs' := #[.int .i64 v0, .int .i64 v1, .int .i64 v2, .int .i64 kd, .int .i64 a4, .int .i64 a5, .int .i64 a6, .int .i64 a7, .bool true, .slice At terms.length ct, .slice none 0 0, .slice none 0 0, .slice none 0 0]) (by simp only [List.setIfInBounds_toArray, List.set_cons_zero, List.set_cons_succ]))
       have hke : Keep (fun k => k = ge) w10 (w10.setCell ⟨ge, 9, none⟩ (.slice At terms.length ct)) := (Keep.refl _ _).setCell _ _ (.inl rfl)
       have hA : ∀ k, (Value.slice At terms.length ct).ownBlock = some k → ¬ k = b ∧ ¬ k = ge ∧ ¬ k = gr := fun k hk => by
         have h1 := own_base o10 k hk
         have h2 := blk_lt B9.out.be
         have h3 := blk_lt B9.out.br
         have h4 := (B9.out.rd.2.1 b B9.out.rd.1).2
         omega
       have HT10 := Lib.hid (hke.own (own_less o10 (B9.out.keep.size)) (fun k hk e => (hA k hk).2.1 e))
       have HA := Lib.hid hA
       clear o10 r10 f10 k10 n10 b10 hke hA)
    | (go_at_call 38; refine (one_any _ w.heap.size b F8 s8 B8.out.rd).mono ?_
       rintro r w9 ⟨rfl, F9, r9, f9, k9⟩
       rw [Y.out]
       rw [E9.out] at r9
       have b9 := B8.out.after r9 f9 k9
       have q8 := blk_cell b9.be 8
       have fq8 := blk_frozen b9.be 8
       have B9 := Lib.hid (b9.store 8 (.bool true) (cs' := #[.int .i64 v0, .int .i64 v1, .int .i64 v2, .int .i64 kd, .int .i64 a4, .int .i64 a5, .int .i64 a6, .int .i64 a7, .bool true, .slice none 0 0, .slice none 0 0, .slice none 0 0, .slice none 0 0]) rfl)
       clear r9 f9 k9 b9)
    | (go_at_call 36; refine (number_any _ w.heap.size b F7 s7 B7.out.rd).mono ?_
       rintro r w8 ⟨rfl, F8, r8, f8, k8⟩
       rw [V7.out]
       rw [E8.out] at r8
       have b8 := B7.out.after r8 f8 k8
       have q6 := blk_cell b8.be 6
       have fq6 := blk_frozen b8.be 6
       have q7 := blk_cell b8.be 7
       have fq7 := blk_frozen b8.be 7
       have B8 := Lib.hid ((b8.store 6 (.int .i64 a6) rfl).store 7 (.int .i64 a7) rfl)
       clear r8 f8 k8 b8)
    | (go_at_call 36; refine (number_any _ w.heap.size b F6 s6 B6.out.rd).mono ?_
       rintro r w7 ⟨rfl, F7, r7, f7, k7⟩
       rw [V6.out]
       rw [E7.out] at r7
       have b7 := B6.out.after r7 f7 k7
       have B7 := Lib.hid b7
       clear r7 f7 k7 b7)
    | (go_at_call 36; refine (number_any _ w.heap.size b F5 s5 B5.out.rd).mono ?_
       rintro r w6 ⟨rfl, F6, r6, f6, k6⟩
       rw [V5.out]
       rw [E6.out] at r6
       have b6 := B5.out.after r6 f6 k6
       have q4 := blk_cell b6.be 4
       have fq4 := blk_frozen b6.be 4
       have q5 := blk_cell b6.be 5
       have fq5 := blk_frozen b6.be 5
       have B6 := Lib.hid ((b6.store 4 (.int .i64 a4) rfl).store 5 (.int .i64 a5) rfl)
       clear r6 f6 k6 b6)
    | (go_at_call 36; refine (number_any _ w.heap.size b F4 s4 B4.out.rd).mono ?_
       rintro r w5 ⟨rfl, F5, r5, f5, k5⟩
       rw [V4.out]
       rw [E5.out] at r5
       have b5 := B4.out.after r5 f5 k5
       have B5 := Lib.hid b5
       clear r5 f5 k5 b5)
    | (go_at_call 37; refine (sort_any 1 15 _ w.heap.size b F3 s3 B3.out.rd).mono ?_
       rintro r w4 ⟨rfl, F4, r4, f4, k4⟩
       rw [V3.out]
       rw [E4.out] at r4
       have b4 := B3.out.after r4 f4 k4
       have q3 := blk_cell b4.be 3
       have fq3 := blk_frozen b4.be 3
       have B4 := Lib.hid (b4.store 3 (.int .i64 kd) rfl)
       clear r4 f4 k4 b4)
    | (go_at_call 36; refine (number_any _ w.heap.size b F2 s2 B2.out.rd).mono ?_
       rintro r w3 ⟨rfl, F3, r3, f3, k3⟩
       rw [V2.out]
       rw [E3.out] at r3
       have b3 := B2.out.after r3 f3 k3
       have q1 := blk_cell b3.be 1
       have fq1 := blk_frozen b3.be 1
       have q2 := blk_cell b3.be 2
       have fq2 := blk_frozen b3.be 2
       have B3 := Lib.hid ((b3.store 1 (.int .i64 v1) rfl).store 2 (.int .i64 v2) rfl)
       clear r3 f3 k3 b3)
    | (go_at_call 36
       obtain ⟨ge, hge⟩ : ∃ ge, ge = w1.heap.size := ⟨_, rfl⟩
       have b1 := BoxS.begin (w := w) (F0 := (fun _ => False)) (ce := .cells #[.int .i64 v0, .int .i64 0, .int .i64 0, .int .i64 0, .int .i64 0, .int .i64 0, .int .i64 0, .int .i64 0, .bool false, .slice none 0 0, .slice none 0 0, .slice none 0 0, .slice none 0 0] 32 (0, 0)) H1.out HF1.out HK1.out HZ1.out HR1.out hge
       rw [← hge]
       refine (number_any _ w.heap.size b F1 s1 b1.rd).mono ?_
       rintro r w2 ⟨rfl, F2, r2, f2, k2⟩
       rw [V1.out]
       rw [E2.out] at r2
       have B2 := Lib.hid (b1.after r2 f2 k2)
       clear r2 f2 k2 b1 hge)
    | (go_at_call 36
       generalize hW : w0.alloc _ = W3
       obtain ⟨b, hbb⟩ : ∃ b, b = w0.heap.size := ⟨_, rfl⟩
       rw [← hbb]
       have r3 := rd_new HBy.out HO0.out HB0.out
       rw [hW, ← hbb] at r3
       have hB3 : Below w0.heap.size w0 W3 := by rw [← hW]; exact (Below.refl _ w0).alloc (Nat.le_refl _) _
       have hBw3 := HB0.out.trans (hB3.mono HB0.out.size)
       have hgb : ¬ gr = b := fun e => by have h1 := HGR.out; have h2 := HS0.out; omega
       have hbw : w.heap.size ≤ b := by rw [hbb]; exact HB0.out.size
       have hE4 := number_any W3 w.heap.size b _ (l, 0) r3
       rw [E1.out, V0.out] at hE4
       refine hE4.mono ?_
       rintro r w1 ⟨rfl, F1, r1, f1, k1⟩
       have H1 := Lib.hid r1
       have HGB := Lib.hid hgb
       have HBW := Lib.hid hbw
       have HZ1 := Lib.hid (k1.blk (blk_below HR0.out hB3) hgb)
       have HK1 := Lib.hid ((Keep.of_below hBw3 (fun k => k = b)).trans k1 (fun _ h => .inl h))
       have HF1 := Lib.hid (show ∀ k, F1 k → False ∨ w.heap.size ≤ k from fun k hk => .inr (r1.2.1 k hk).1)
       have HR1 := Lib.hid (show ¬ F1 gr ∧ w.heap.size ≤ gr from ⟨fun hf => by
         rcases f1 gr hf with e | e
         · rcases e with e | e
           · exact hgb e
           · have := own_base HO0'.out gr e
             have h1 := HGR.out
             omega
         · have h1 := HGR.out
           have h2 := HS0.out
           have h3 := hB3.size
           omega, by rw [HGR.out]; exact Nat.le_refl _⟩)
       clear hW hbb r3 hB3 hBw3 r1 f1 k1 hgb hbw)
    | (go_at_call 35
       generalize hW : w.alloc _ = W1
       have hB1 : Below w.heap.size w W1 := by rw [← hW]; exact (Below.refl _ w).alloc (Nat.le_refl _) _
       have hr1 : W1.heap[gr]? = some (.cells zeroMsg 32 (0, 0)) := by rw [← hW, HGR.out]; exact heap_alloc_new w _
       have hs1 : W1.heap.size = w.heap.size + 1 := by rw [← hW]; simp
       rw [← HGR.out]
       refine (clone8_any W1 A l.length c l (HR.out.below hB1) hn).mono ?_
       rintro r w0 ⟨v, rfl, o2, B2⟩
       obtain ⟨A2, c2, rfl⟩ := own_slice o2
       have HO0 := Lib.hid (own_less o2 hB1.size)
       have HO0' := Lib.hid (show w0.ownsRow (w.heap.size + 1) 5 1 (.slice A2 l.length c2) l.length (nums .u8 l) from hs1 ▸ o2)
       have HB0 := Lib.hid (hB1.trans (B2.mono hB1.size))
       have HR0 := Lib.hid (blk_below hr1 B2)
       have HS0 := Lib.hid (show w.heap.size < w0.heap.size from by have := B2.size; omega)
       clear hW hB1 hr1 hs1 o2 B2))
  go_loopw [7] (fun nv wr => ∃ (m : Nat) (s' : St) (dn : List Ent) (u : Value) (G : Nat → Prop), nv = .int .i64 (m : Int) ∧ dn.length + m ≤ 64 ∧ RowKit.Hid (entsL n s11 = (dn ++ (entsL m s').1, (entsL m s').2)) ∧ RowKit.Hid (BoxS w w.heap.size (fun _ => False) b gr ge (.cells zeroMsg 32 (0, 0)) (.cells #[.int .i64 v0, .int .i64 v1, .int .i64 v2, .int .i64 kd, .int .i64 a4, .int .i64 a5, .int .i64 a6, .int .i64 a7, .bool true, .slice At terms.length ct, u, .slice none 0 0, .slice none 0 0] 32 (0, 0)) s' wr G) ∧ RowKit.Hid (entK.R 27 wr w.heap.size (fun k => ¬ k = b ∧ ¬ k = ge ∧ ¬ k = gr ∧ ¬ (Value.slice At terms.length ct).ownBlock = some k) u dn) ∧ RowKit.Hid (∀ k, u.ownBlock = some k → ¬ G k) ∧ RowKit.Hid (wr.ownsRow w.heap.size 3 1 (.slice At terms.length ct) terms.length (nums .i64 terms))) (fun nv _ => (intOf nv).toNat)
  case atStart => exact ⟨n, s11, [], .slice none 0 0, F11, rfl, by simpa using hn64, Lib.hid (by simp), B11, Lib.hid (Kd.R_nil _ _ _ _ _), Lib.hid (fun k hk => by simp [Value.ownBlock] at hk), HT11⟩
  case round =>
    obtain ⟨m, s', dn, u, G, rfl, hle, HE, HBX, HU, HUG, HTR⟩ := hrel
    obtain ⟨ev, hc1, hev⟩ := rd_err HBX.out.rd
    obtain ⟨Au, cu, rfl⟩ := Kd.R_slice HU.out
    cases m with
    | zero =>
      have hz : ((0 : Nat) : Int) = 0 := rfl
      rw [hz]
      have hfin := HE.out
      simp only [entsL, List.append_nil] at hfin
      have HFIN := Lib.hid hfin
      clear hfin hev hz
      have hfe := HFIN.out.symm.trans E12.out
      obtain ⟨hd1, hd2⟩ := Prod.mk.inj hfe
      subst hd1
      subst hd2
      clear hfe HFIN HE
      by_cases he : E = 0
      · have hm := HM.out
        rw [if_pos he] at hm
        subst hm
        subst he
        go_wp2_with (first
          | (go_at_call 44
             have hbw13 := B13.out.keep.to_below (Nat.le_refl w.heap.size) (fun k hk => by have e : k = b := hk; rw [e]; exact HBW.out)
             refine (end_any _ w.heap.size b F13 s13 (HG.out.below hbw13) H0.out B13.out.rd).mono ?_
             rintro r w14 ⟨rfl, k14⟩
             rw [EE.out]
             have hbe := k14.blk B13.out.be (fun e => B13.out.ne.1 (by have e' : ge = b := e; rw [e']; exact B13.out.rd.1))
             have hbr := k14.blk B13.out.br HGB.out
             have HR14 := Lib.hid hbr
             have HB14 := Lib.hid (hbw13.trans (k14.to_below hbw13.size (fun k hk => by have e : k = b := hk; rw [e]; exact HBW.out)))
             have HP14 := Lib.hid (k14.own HP13.out (fun k hk e => (HA1.out k hk).1 e))
             have HQ14 := Lib.hid (k14.own HQ13.out (fun k hk e => (HA2.out k hk).1 e))
             have HT14 := Lib.hid (k14.own HT13.out (fun k hk e => (HA.out k hk).1 e))
             have HU14 := Lib.hid (Kd.R_step HU13.out (fun k hk hlt => k14.block k hlt hk.1))
             have q0 := blk_cell hbe 0
             have q1 := blk_cell hbe 1
             have q2 := blk_cell hbe 2
             have q3 := blk_cell hbe 3
             have q4 := blk_cell hbe 4
             have q5 := blk_cell hbe 5
             have q6 := blk_cell hbe 6
             have q7 := blk_cell hbe 7
             have q8 := blk_cell hbe 8
             have q9 := blk_cell hbe 9
             have q10 := blk_cell hbe 10
             have q11 := blk_cell hbe 11
             have q12 := blk_cell hbe 12
             have r0 := blk_cell hbr 0
             have r1 := blk_cell hbr 1
             have r2 := blk_cell hbr 2
             have r3 := blk_cell hbr 3
             have r4 := blk_cell hbr 4
             have r5 := blk_cell hbr 5
             have r6 := blk_cell hbr 6
             have r7 := blk_cell hbr 7
             have r8 := blk_cell hbr 8
             have r9 := blk_cell hbr 9
             have r10 := blk_cell hbr 10
             have r11 := blk_cell hbr 11
             have r12 := blk_cell hbr 12
             have f0 := fun j => blk_frozen hbr j
             clear hbw13 k14 hbe hbr)
          | (go_at_call 43
             have hE5 := aConfig_any wr w.heap.size b G s' HBX.out.rd
             rw [VO.out, VN.out, E13.out] at hE5
             refine hE5.mono ?_
             rintro r w13 ⟨A1, c1, A2, c2, F13, rfl, o1, o2, r13, f13, k13, n1, n2⟩
             have b13 := HBX.out.after r13 f13 k13
             have q11 := blk_cell b13.be 11
             have fq11 := blk_frozen b13.be 11
             have q12 := blk_cell b13.be 12
             have fq12 := blk_frozen b13.be 12
             have B13 := Lib.hid ((b13.store 11 (.slice A1 old.length c1) rfl).store 12 (.slice A2 new.length c2) rfl)
             have hke : Keep (fun k => k = ge) w13 ((w13.setCell ⟨ge, 11, none⟩ (.slice A1 old.length c1)).setCell ⟨ge, 12, none⟩ (.slice A2 new.length c2)) := ((Keep.refl (fun k => k = ge) w13).setCell ⟨ge, 11, none⟩ _ (.inl rfl)).setCell ⟨ge, 12, none⟩ _ (.inl rfl)
             have hkw : w.heap.size ≤ wr.heap.size := HBX.out.keep.size
             have hlb := blk_lt HBX.out.be
             have hlr := blk_lt HBX.out.br
             have hlbb := (HBX.out.rd.2.1 b HBX.out.rd.1).2
             have HA1 := Lib.hid (show ∀ k, (Value.slice A1 old.length c1).ownBlock = some k → ¬ k = b ∧ ¬ k = ge ∧ ¬ k = gr from fun k hk => by have := own_base o1 k hk; omega)
             have HA2 := Lib.hid (show ∀ k, (Value.slice A2 new.length c2).ownBlock = some k → ¬ k = b ∧ ¬ k = ge ∧ ¬ k = gr from fun k hk => by have := own_base o2 k hk; omega)
             have HP13 := Lib.hid (hke.own (own_less o1 hkw) (fun k hk e => (HA1.out k hk).2.1 e))
             have HQ13 := Lib.hid (hke.own (own_less o2 hkw) (fun k hk e => (HA2.out k hk).2.1 e))
             have HT13 := Lib.hid (hke.own (k13.own HTR.out (fun k hk e => (HA.out k hk).1 e)) (fun k hk e => (HA.out k hk).2.1 e))
             have HU13 := Lib.hid (Kd.R_step (Kd.R_step HU.out (fun k hk hlt => k13.block k hlt hk.1)) (fun k hk hlt => hke.block k hlt hk.2.1))
             clear o1 o2 r13 f13 k13 n1 n2 b13 hke hkw hlb hlr hlbb hE5))
        clear q0 q1 q2 q3 q4 q5 q6 q7 q8 q9 q10 q11 q12 r0 r1 r2 r3 r4 r5 r6 r7 r8 r9 r10 r11 r12 f0 fq11 fq12
        have hf : (((((((((((((w14.setCell ⟨gr, 0, none⟩ (.int .i64 v0)).setCell ⟨gr, 1, none⟩ (.int .i64 v1)).setCell ⟨gr, 2, none⟩ (.int .i64 v2)).setCell ⟨gr, 3, none⟩ (.int .i64 kd)).setCell ⟨gr, 4, none⟩ (.int .i64 a4)).setCell ⟨gr, 5, none⟩ (.int .i64 a5)).setCell ⟨gr, 6, none⟩ (.int .i64 a6)).setCell ⟨gr, 7, none⟩ (.int .i64 a7)).setCell ⟨gr, 8, none⟩ (.bool true)).setCell ⟨gr, 9, none⟩ (.slice At terms.length ct)).setCell ⟨gr, 10, none⟩ (.slice Au dn.length cu)).setCell ⟨gr, 11, none⟩ (.slice A1 old.length c1)).setCell ⟨gr, 12, none⟩ (.slice A2 new.length c2)) = w14.setCells gr 0 [.int .i64 v0, .int .i64 v1, .int .i64 v2, .int .i64 kd, .int .i64 a4, .int .i64 a5, .int .i64 a6, .int .i64 a7, .bool true, .slice At terms.length ct, .slice Au dn.length cu, .slice A1 old.length c1, .slice A2 new.length c2] := rfl
        rw [hf]
        clear hf
        have hkr := Keep.setCells (F := fun k => k = gr) gr [.int .i64 v0, .int .i64 v1, .int .i64 v2, .int .i64 kd, .int .i64 a4, .int .i64 a5, .int .i64 a6, .int .i64 a7, .bool true, .slice At terms.length ct, .slice Au dn.length cu, .slice A1 old.length c1, .slice A2 new.length c2] 0 _ (Keep.refl (fun k => k = gr) w14) (.inl rfl)
        obtain ⟨cur, hc1, hc2, hc3⟩ := setCells_blk [.int .i64 v0, .int .i64 v1, .int .i64 v2, .int .i64 kd, .int .i64 a4, .int .i64 a5, .int .i64 a6, .int .i64 a7, .bool true, .slice At terms.length ct, .slice Au dn.length cu, .slice A1 old.length c1, .slice A2 new.length c2] 0 w14 zeroMsg HR14.out (Nat.le_refl 13)
        have hcur : cur = #[.int .i64 v0, .int .i64 v1, .int .i64 v2, .int .i64 kd, .int .i64 a4, .int .i64 a5, .int .i64 a6, .int .i64 a7, .bool true, .slice At terms.length ct, .slice Au dn.length cu, .slice A1 old.length c1, .slice A2 new.length c2] := by
          apply Array.toList_inj.1
          rw [hc3]
          rfl
        subst hcur
        generalize w14.setCells gr 0 [.int .i64 v0, .int .i64 v1, .int .i64 v2, .int .i64 kd, .int .i64 a4, .int .i64 a5, .int .i64 a6, .int .i64 a7, .bool true, .slice At terms.length ct, .slice Au dn.length cu, .slice A1 old.length c1, .slice A2 new.length c2] = W7 at *
        have r0 := blk_cell hc1 0
        have r1 := blk_cell hc1 1
        have r2 := blk_cell hc1 2
        have r3 := blk_cell hc1 3
        have r4 := blk_cell hc1 4
        have r5 := blk_cell hc1 5
        have r6 := blk_cell hc1 6
        have r7 := blk_cell hc1 7
        have r8 := blk_cell hc1 8
        have r9 := blk_cell hc1 9
        have r10 := blk_cell hc1 10
        have r11 := blk_cell hc1 11
        have r12 := blk_cell hc1 12
        simp only [List.getElem?_toArray, List.getElem?_cons_zero, List.getElem?_cons_succ] at r0 r1 r2 r3 r4 r5 r6 r7 r8 r9 r10 r11 r12
        have hO1 := hkr.own HP14.out (fun k hk e => (HA1.out k hk).2.2 e)
        have hO2 := hkr.own HQ14.out (fun k hk e => (HA2.out k hk).2.2 e)
        have hT := hkr.own HT14.out (fun k hk e => (HA.out k hk).2.2 e)
        have hU := Kd.R_mono (Kd.R_step HU14.out (fun k hk hlt => hkr.block k hlt hk.2.2.1)) (fun _ _ => trivial)
        have hB7 := HB14.out.trans (hkr.to_below HB14.out.size (fun k hk => by have e : k = gr := hk; rw [e, HGR.out]; exact Nat.le_refl _))
        refine bodyPost_ret (v := .tuple #[.agg #[.int .i64 v0, .int .i64 v1, .int .i64 v2, .int .i64 kd, .int .i64 a4, .int .i64 a5, .int .i64 a6, .int .i64 a7, .bool true, .slice At terms.length ct, .slice Au dn.length cu, .slice A1 old.length c1, .slice A2 new.length c2], .int .i64 0]) (by simp [results, Tryd.results15, go_sem, r0, r1, r2, r3, r4, r5, r6, r7, r8, r9, r10, r11, r12]) rfl ⟨At, ct, Au, cu, A1, c1, A2, c2, rfl, hT, hU, hO1, hO2, hB7⟩
      · have hm := HM.out
        rw [if_neg he] at hm
        subst hm
        have heb : (E == 0) = false := beq_eq_false_iff_ne.mpr he
        go_wp2_with (first
          | (go_at_call 44
             have hbw13 := B13.out.keep.to_below (Nat.le_refl w.heap.size) (fun k hk => by have e : k = b := hk; rw [e]; exact HBW.out)
             refine (end_any _ w.heap.size b F13 s13 (HG.out.below hbw13) H0.out B13.out.rd).mono ?_
             rintro r w14 ⟨rfl, k14⟩
             rw [EE.out]
             have hbe := k14.blk B13.out.be (fun e => B13.out.ne.1 (by have e' : ge = b := e; rw [e']; exact B13.out.rd.1))
             have hbr := k14.blk B13.out.br HGB.out
             have HR14 := Lib.hid hbr
             have HB14 := Lib.hid (hbw13.trans (k14.to_below hbw13.size (fun k hk => by have e : k = b := hk; rw [e]; exact HBW.out)))
             have HP14 := Lib.hid (k14.own HP13.out (fun k hk e => (HA1.out k hk).1 e))
             have HQ14 := Lib.hid (k14.own HQ13.out (fun k hk e => (HA2.out k hk).1 e))
             have HT14 := Lib.hid (k14.own HT13.out (fun k hk e => (HA.out k hk).1 e))
             have HU14 := Lib.hid (Kd.R_step HU13.out (fun k hk hlt => k14.block k hlt hk.1))
             have q0 := blk_cell hbe 0
             have q1 := blk_cell hbe 1
             have q2 := blk_cell hbe 2
             have q3 := blk_cell hbe 3
             have q4 := blk_cell hbe 4
             have q5 := blk_cell hbe 5
             have q6 := blk_cell hbe 6
             have q7 := blk_cell hbe 7
             have q8 := blk_cell hbe 8
             have q9 := blk_cell hbe 9
             have q10 := blk_cell hbe 10
             have q11 := blk_cell hbe 11
             have q12 := blk_cell hbe 12
             have r0 := blk_cell hbr 0
             have r1 := blk_cell hbr 1
             have r2 := blk_cell hbr 2
             have r3 := blk_cell hbr 3
             have r4 := blk_cell hbr 4
             have r5 := blk_cell hbr 5
             have r6 := blk_cell hbr 6
             have r7 := blk_cell hbr 7
             have r8 := blk_cell hbr 8
             have r9 := blk_cell hbr 9
             have r10 := blk_cell hbr 10
             have r11 := blk_cell hbr 11
             have r12 := blk_cell hbr 12
             have f0 := fun j => blk_frozen hbr j
             clear hbw13 k14 hbe hbr)
          | (go_at_call 43
             have hE5 := aConfig_any wr w.heap.size b G s' HBX.out.rd
             rw [VO.out, VN.out, E13.out] at hE5
             refine hE5.mono ?_
             rintro r w13 ⟨A1, c1, A2, c2, F13, rfl, o1, o2, r13, f13, k13, n1, n2⟩
             have b13 := HBX.out.after r13 f13 k13
             have q11 := blk_cell b13.be 11
             have fq11 := blk_frozen b13.be 11
             have q12 := blk_cell b13.be 12
             have fq12 := blk_frozen b13.be 12
             have B13 := Lib.hid ((b13.store 11 (.slice A1 old.length c1) rfl).store 12 (.slice A2 new.length c2) rfl)
             have hke : Keep (fun k => k = ge) w13 ((w13.setCell ⟨ge, 11, none⟩ (.slice A1 old.length c1)).setCell ⟨ge, 12, none⟩ (.slice A2 new.length c2)) := ((Keep.refl (fun k => k = ge) w13).setCell ⟨ge, 11, none⟩ _ (.inl rfl)).setCell ⟨ge, 12, none⟩ _ (.inl rfl)
             have hkw : w.heap.size ≤ wr.heap.size := HBX.out.keep.size
             have hlb := blk_lt HBX.out.be
             have hlr := blk_lt HBX.out.br
             have hlbb := (HBX.out.rd.2.1 b HBX.out.rd.1).2
             have HA1 := Lib.hid (show ∀ k, (Value.slice A1 old.length c1).ownBlock = some k → ¬ k = b ∧ ¬ k = ge ∧ ¬ k = gr from fun k hk => by have := own_base o1 k hk; omega)
             have HA2 := Lib.hid (show ∀ k, (Value.slice A2 new.length c2).ownBlock = some k → ¬ k = b ∧ ¬ k = ge ∧ ¬ k = gr from fun k hk => by have := own_base o2 k hk; omega)
             have HP13 := Lib.hid (hke.own (own_less o1 hkw) (fun k hk e => (HA1.out k hk).2.1 e))
             have HQ13 := Lib.hid (hke.own (own_less o2 hkw) (fun k hk e => (HA2.out k hk).2.1 e))
             have HT13 := Lib.hid (hke.own (k13.own HTR.out (fun k hk e => (HA.out k hk).1 e)) (fun k hk e => (HA.out k hk).2.1 e))
             have HU13 := Lib.hid (Kd.R_step (Kd.R_step HU.out (fun k hk hlt => k13.block k hlt hk.1)) (fun k hk hlt => hke.block k hlt hk.2.1))
             clear o1 o2 r13 f13 k13 n1 n2 b13 hke hkw hlb hlr hlbb hE5))
        clear q0 q1 q2 q3 q4 q5 q6 q7 q8 q9 q10 q11 q12 r0 r1 r2 r3 r4 r5 r6 r7 r8 r9 r10 r11 r12 f0 fq11 fq12
        have hf : (((((((((((((w14.setCell ⟨gr, 0, none⟩ (.int .i64 0)).setCell ⟨gr, 1, none⟩ (.int .i64 0)).setCell ⟨gr, 2, none⟩ (.int .i64 0)).setCell ⟨gr, 3, none⟩ (.int .i64 0)).setCell ⟨gr, 4, none⟩ (.int .i64 0)).setCell ⟨gr, 5, none⟩ (.int .i64 0)).setCell ⟨gr, 6, none⟩ (.int .i64 0)).setCell ⟨gr, 7, none⟩ (.int .i64 0)).setCell ⟨gr, 8, none⟩ (.bool false)).setCell ⟨gr, 9, none⟩ (.slice none 0 0)).setCell ⟨gr, 10, none⟩ (.slice none 0 0)).setCell ⟨gr, 11, none⟩ (.slice none 0 0)).setCell ⟨gr, 12, none⟩ (.slice none 0 0)) = w14.setCells gr 0 [.int .i64 0, .int .i64 0, .int .i64 0, .int .i64 0, .int .i64 0, .int .i64 0, .int .i64 0, .int .i64 0, .bool false, .slice none 0 0, .slice none 0 0, .slice none 0 0, .slice none 0 0] := rfl
        rw [hf]
        clear hf
        have hkr := Keep.setCells (F := fun k => k = gr) gr [.int .i64 0, .int .i64 0, .int .i64 0, .int .i64 0, .int .i64 0, .int .i64 0, .int .i64 0, .int .i64 0, .bool false, .slice none 0 0, .slice none 0 0, .slice none 0 0, .slice none 0 0] 0 _ (Keep.refl (fun k => k = gr) w14) (.inl rfl)
        obtain ⟨cur, hc1, hc2, hc3⟩ := setCells_blk [.int .i64 0, .int .i64 0, .int .i64 0, .int .i64 0, .int .i64 0, .int .i64 0, .int .i64 0, .int .i64 0, .bool false, .slice none 0 0, .slice none 0 0, .slice none 0 0, .slice none 0 0] 0 w14 zeroMsg HR14.out (Nat.le_refl 13)
        have hcur : cur = #[.int .i64 0, .int .i64 0, .int .i64 0, .int .i64 0, .int .i64 0, .int .i64 0, .int .i64 0, .int .i64 0, .bool false, .slice none 0 0, .slice none 0 0, .slice none 0 0, .slice none 0 0] := by
          apply Array.toList_inj.1
          rw [hc3]
          rfl
        subst hcur
        generalize w14.setCells gr 0 [.int .i64 0, .int .i64 0, .int .i64 0, .int .i64 0, .int .i64 0, .int .i64 0, .int .i64 0, .int .i64 0, .bool false, .slice none 0 0, .slice none 0 0, .slice none 0 0, .slice none 0 0] = W7 at *
        have r0 := blk_cell hc1 0
        have r1 := blk_cell hc1 1
        have r2 := blk_cell hc1 2
        have r3 := blk_cell hc1 3
        have r4 := blk_cell hc1 4
        have r5 := blk_cell hc1 5
        have r6 := blk_cell hc1 6
        have r7 := blk_cell hc1 7
        have r8 := blk_cell hc1 8
        have r9 := blk_cell hc1 9
        have r10 := blk_cell hc1 10
        have r11 := blk_cell hc1 11
        have r12 := blk_cell hc1 12
        simp only [List.getElem?_toArray, List.getElem?_cons_zero, List.getElem?_cons_succ] at r0 r1 r2 r3 r4 r5 r6 r7 r8 r9 r10 r11 r12
        have hB7 := HB14.out.trans (hkr.to_below HB14.out.size (fun k hk => by have e : k = gr := hk; rw [e, HGR.out]; exact Nat.le_refl _))
        refine bodyPost_ret (v := .tuple #[.agg #[.int .i64 0, .int .i64 0, .int .i64 0, .int .i64 0, .int .i64 0, .int .i64 0, .int .i64 0, .int .i64 0, .bool false, .slice none 0 0, .slice none 0 0, .slice none 0 0, .slice none 0 0], .int .i64 E]) (by simp [results, Tryd.results15, go_sem, r0, r1, r2, r3, r4, r5, r6, r7, r8, r9, r10, r11, r12]) rfl ⟨none, 0, none, 0, none, 0, none, 0, rfl, own_nil _ _ _ _, Kd.R_nil _ _ _ _ _, own_nil _ _ _ _, own_nil _ _ _ _, hB7⟩
    | succ m =>
      have hm0 : (0 : Int) < (m : Int) + 1 := by omega
      have hmc : ((m + 1 : Nat) : Int) = (m : Int) + 1 := by push_cast; rfl
      rw [hmc]
      by_cases h0 : s'.2 = 0
      · obtain rfl : ev = .nilIface := hev.elim (fun h => h.2) (fun h => absurd h0 h.1)
        have hst : entsL n s11 = ((dn ++ [entV s']) ++ (entsL m (entS s')).1, (entsL m (entS s')).2) := by
          rw [HE.out, entsL, if_pos h0]; simp
        have HST := Lib.hid hst
        clear hst h0 hev hmc
        obtain ⟨x, hx⟩ : ∃ z, entV s' = z := ⟨_, rfl⟩
        rw [hx] at HST
        have HX := Lib.hid hx
        clear hx
        have hq10 := blk_cell HBX.out.be 10
        simp only [List.getElem?_toArray, List.getElem?_cons_zero, List.getElem?_cons_succ] at hq10
        go_wp2_with fail
        go_region_law (first
          | (have hkw : w.heap.size ≤ wr.heap.size := HBX.out.keep.size
             have hlb := blk_lt HBX.out.be
             have hlr := blk_lt HBX.out.br
             have hlbb := (HBX.out.rd.2.1 b HBX.out.rd.1).2
             have hltt : ∀ k, (Value.slice At terms.length ct).ownBlock = some k → k < wr.heap.size := own_lt HTR.out
             have hBW : Below w.heap.size w w2 := HBX2.out.keep.to_below (Nat.le_refl _) (fun k hk => by have e : k = b := hk; rw [e]; exact HBW.out)
             refine Kd.R_append_step entK (w0 := w) (W := w2) w.heap.size (by rfl) _ _ 28 27 _ 72 rfl Tryd.underlying28 info27 rfl (by decide) (by decide) (.slice Au dn.length cu) dn x (x.cells (.slice A2 x.mem.length c2)) (fun k => ¬ k = b ∧ ¬ k = ge ∧ ¬ k = gr ∧ ¬ (Value.slice At terms.length ct).ownBlock = some k) (fun k => wr.heap.size ≤ k) rfl rfl ⟨_, rfl, own_less HO2.out hkw, fun k hk => own_base HO2.out k hk⟩ (fun k hk => ⟨⟨by omega, by omega, by omega, fun e => by have := hltt k e; omega⟩, fun e => by have := Kd.R_lt HU.out k e.symm; omega⟩) (fun k hk => ?_) HU2.out hBW hBW.size (by omega) ?_
             · have hs2 := HK2.out.size
               exact ⟨by omega, by omega, by omega, fun e => by have := hltt k e; omega⟩
             intro v3 w3 hR3 hB3 hg3 hat3
             have hk3 : Keep (fun k => (Value.slice Au dn.length cu).ownBlock = some k) w2 w3 := Keep.of_grown hg3 (fun k hk => hk)
             have hau : ∀ k, (Value.slice Au dn.length cu).ownBlock = some k → ¬ k = b ∧ ¬ k = ge ∧ ¬ k = gr ∧ ¬ (Value.slice At terms.length ct).ownBlock = some k := fun k hk => HU.out.1 k hk
             have hug : ∀ k, (Value.slice Au dn.length cu).ownBlock = some k → ¬ G2 k := fun k hk hf => by
               rcases HF2.out k hf with e | e
               · exact HUG.out k hk e
               · have := Kd.R_lt HU.out k hk; omega
             have hbx : BoxS w w.heap.size (fun _ => False) b gr ge _ _ (entS s') w3 G2 := BoxS.away HBX2.out hk3 hug hB3 HBW.out (fun k hk => (hau k hk).2.1) (fun k hk => (hau k hk).2.2.1)
             obtain ⟨A3, c3, rfl⟩ := Kd.R_slice hR3
             have hq3 := blk_cell hbx.be 10
             simp only [List.getElem?_toArray, List.getElem?_cons_zero, List.getElem?_cons_succ] at hq3
             have fq3 := blk_frozen hbx.be 10
             obtain ⟨L3, hL3⟩ : ∃ z : Nat, z = (dn ++ [x]).length := ⟨_, rfl⟩
             rw [← hL3] at hR3 hat3 ⊢
             clear hL3
             have HBX3 := Lib.hid (hbx.store 10 (.slice A3 L3 c3) rfl)
             have hke : Keep (fun k => k = ge) w3 (w3.setCell ⟨ge, 10, none⟩ (.slice A3 L3 c3)) := (Keep.refl _ _).setCell _ _ (.inl rfl)
             have HR3 := Lib.hid (Kd.R_step hR3 (fun k hk hlt => hke.block k hlt hk.2.1))
             have HT3 := Lib.hid (hke.own (hk3.own HT2.out (fun k hk e => (hau k e).2.2.2 hk)) (fun k hk e => (HA.out k hk).2.1 e))
             have HG3 := Lib.hid (show ∀ k, (Value.slice A3 L3 c3).ownBlock = some k → ¬ G2 k from fun k hk hf => by
               rcases hat3 with e | ⟨bb, e, hle2⟩
               · exact hug k (e ▸ hk) hf
               · rw [e] at hk
                 injection hk with hk
                 have := (HBX2.out.rd.2.1 k hf).2
                 omega)
             clear hkw hlb hlr hlbb hltt hBW hR3 hB3 hg3 hat3 hk3 hau hug hbx hke)
          | (go_simp
             go_at_call 42
             have hE4 := anEntry_any wr.drew w.heap.size b G s' (HBX.out.rd.below ((Below.refl _ wr).drew))
             rw [HX.out] at hE4
             refine hE4.mono ?_
             rintro r w2 ⟨A2, c2, G2, rfl, o2, r2, f2, k2, n2⟩
             have HK2 := Lib.hid (show Keep (fun k => k = b) wr w2 from ((Keep.refl (fun k => k = b) wr).drew).trans k2 (fun _ h => .inl h))
             have HBX2 := Lib.hid (HBX.out.after r2 f2 HK2.out)
             have hq2 := blk_cell HBX2.out.be 10
             simp only [List.getElem?_toArray, List.getElem?_cons_zero, List.getElem?_cons_succ] at hq2
             have hq2a : ∀ X, (w2.alloc X).cell? ⟨ge, 10, none⟩ = some (.slice Au dn.length cu) := fun X => blk_cell (blk_alloc HBX2.out.be X) 10
             have HU2 := Lib.hid (Kd.R_step HU.out (fun k hk hlt => HK2.out.block k hlt hk.1))
             have HO2 := Lib.hid (show w2.ownsRow wr.heap.size 3 1 (.slice A2 x.mem.length c2) x.mem.length (nums .i64 x.mem) from o2)
             have HF2 := Lib.hid (show ∀ k, G2 k → G k ∨ wr.heap.size ≤ k from f2)
             have HT2 := Lib.hid (HK2.out.own HTR.out (fun k hk e => (HA.out k hk).1 e))
             clear o2 r2 f2 k2 n2 hE4))
        all_goals
          clear hq2 hq2a hq3 fq3 hq10
          go_wp2_with fail
          exact ⟨⟨m, entS s', dn ++ [x], .slice A3 L3 c3, G2, by simp, by rw [List.length_append, List.length_singleton]; omega, HST, HBX3, HR3, HG3, HT3⟩, by simp [intOf]⟩
      · obtain ⟨b2, rfl⟩ : ∃ b2, ev = .iface 108 (.pointer (some ⟨b2, 0, none⟩)) := hev.elim (fun h => absurd h.1 h0) (fun ⟨_, b2, h, _⟩ => ⟨b2, h⟩)
        have hfin := HE.out
        rw [entsL, if_neg h0, List.append_nil] at hfin
        have HFIN := Lib.hid hfin
        clear hfin hev h0 hmc
        have hfe := HFIN.out.symm.trans E12.out
        obtain ⟨hd1, hd2⟩ := Prod.mk.inj hfe
        subst hd1
        subst hd2
        clear hfe HFIN HE
        by_cases he : E = 0
        · have hm := HM.out
          rw [if_pos he] at hm
          subst hm
          subst he
          go_wp2_with (first
            | (go_at_call 44
               have hbw13 := B13.out.keep.to_below (Nat.le_refl w.heap.size) (fun k hk => by have e : k = b := hk; rw [e]; exact HBW.out)
               refine (end_any _ w.heap.size b F13 s13 (HG.out.below hbw13) H0.out B13.out.rd).mono ?_
               rintro r w14 ⟨rfl, k14⟩
               rw [EE.out]
               have hbe := k14.blk B13.out.be (fun e => B13.out.ne.1 (by have e' : ge = b := e; rw [e']; exact B13.out.rd.1))
               have hbr := k14.blk B13.out.br HGB.out
               have HR14 := Lib.hid hbr
               have HB14 := Lib.hid (hbw13.trans (k14.to_below hbw13.size (fun k hk => by have e : k = b := hk; rw [e]; exact HBW.out)))
               have HP14 := Lib.hid (k14.own HP13.out (fun k hk e => (HA1.out k hk).1 e))
               have HQ14 := Lib.hid (k14.own HQ13.out (fun k hk e => (HA2.out k hk).1 e))
               have HT14 := Lib.hid (k14.own HT13.out (fun k hk e => (HA.out k hk).1 e))
               have HU14 := Lib.hid (Kd.R_step HU13.out (fun k hk hlt => k14.block k hlt hk.1))
               have q0 := blk_cell hbe 0
               have q1 := blk_cell hbe 1
               have q2 := blk_cell hbe 2
               have q3 := blk_cell hbe 3
               have q4 := blk_cell hbe 4
               have q5 := blk_cell hbe 5
               have q6 := blk_cell hbe 6
               have q7 := blk_cell hbe 7
               have q8 := blk_cell hbe 8
               have q9 := blk_cell hbe 9
               have q10 := blk_cell hbe 10
               have q11 := blk_cell hbe 11
               have q12 := blk_cell hbe 12
               have r0 := blk_cell hbr 0
               have r1 := blk_cell hbr 1
               have r2 := blk_cell hbr 2
               have r3 := blk_cell hbr 3
               have r4 := blk_cell hbr 4
               have r5 := blk_cell hbr 5
               have r6 := blk_cell hbr 6
               have r7 := blk_cell hbr 7
               have r8 := blk_cell hbr 8
               have r9 := blk_cell hbr 9
               have r10 := blk_cell hbr 10
               have r11 := blk_cell hbr 11
               have r12 := blk_cell hbr 12
               have f0 := fun j => blk_frozen hbr j
               clear hbw13 k14 hbe hbr)
            | (go_at_call 43
               have hE5 := aConfig_any wr w.heap.size b G s' HBX.out.rd
               rw [VO.out, VN.out, E13.out] at hE5
               refine hE5.mono ?_
               rintro r w13 ⟨A1, c1, A2, c2, F13, rfl, o1, o2, r13, f13, k13, n1, n2⟩
               have b13 := HBX.out.after r13 f13 k13
               have q11 := blk_cell b13.be 11
               have fq11 := blk_frozen b13.be 11
               have q12 := blk_cell b13.be 12
               have fq12 := blk_frozen b13.be 12
               have B13 := Lib.hid ((b13.store 11 (.slice A1 old.length c1) rfl).store 12 (.slice A2 new.length c2) rfl)
               have hke : Keep (fun k => k = ge) w13 ((w13.setCell ⟨ge, 11, none⟩ (.slice A1 old.length c1)).setCell ⟨ge, 12, none⟩ (.slice A2 new.length c2)) := ((Keep.refl (fun k => k = ge) w13).setCell ⟨ge, 11, none⟩ _ (.inl rfl)).setCell ⟨ge, 12, none⟩ _ (.inl rfl)
               have hkw : w.heap.size ≤ wr.heap.size := HBX.out.keep.size
               have hlb := blk_lt HBX.out.be
               have hlr := blk_lt HBX.out.br
               have hlbb := (HBX.out.rd.2.1 b HBX.out.rd.1).2
               have HA1 := Lib.hid (show ∀ k, (Value.slice A1 old.length c1).ownBlock = some k → ¬ k = b ∧ ¬ k = ge ∧ ¬ k = gr from fun k hk => by have := own_base o1 k hk; omega)
               have HA2 := Lib.hid (show ∀ k, (Value.slice A2 new.length c2).ownBlock = some k → ¬ k = b ∧ ¬ k = ge ∧ ¬ k = gr from fun k hk => by have := own_base o2 k hk; omega)
               have HP13 := Lib.hid (hke.own (own_less o1 hkw) (fun k hk e => (HA1.out k hk).2.1 e))
               have HQ13 := Lib.hid (hke.own (own_less o2 hkw) (fun k hk e => (HA2.out k hk).2.1 e))
               have HT13 := Lib.hid (hke.own (k13.own HTR.out (fun k hk e => (HA.out k hk).1 e)) (fun k hk e => (HA.out k hk).2.1 e))
               have HU13 := Lib.hid (Kd.R_step (Kd.R_step HU.out (fun k hk hlt => k13.block k hlt hk.1)) (fun k hk hlt => hke.block k hlt hk.2.1))
               clear o1 o2 r13 f13 k13 n1 n2 b13 hke hkw hlb hlr hlbb hE5))
          clear q0 q1 q2 q3 q4 q5 q6 q7 q8 q9 q10 q11 q12 r0 r1 r2 r3 r4 r5 r6 r7 r8 r9 r10 r11 r12 f0 fq11 fq12
          have hf : (((((((((((((w14.setCell ⟨gr, 0, none⟩ (.int .i64 v0)).setCell ⟨gr, 1, none⟩ (.int .i64 v1)).setCell ⟨gr, 2, none⟩ (.int .i64 v2)).setCell ⟨gr, 3, none⟩ (.int .i64 kd)).setCell ⟨gr, 4, none⟩ (.int .i64 a4)).setCell ⟨gr, 5, none⟩ (.int .i64 a5)).setCell ⟨gr, 6, none⟩ (.int .i64 a6)).setCell ⟨gr, 7, none⟩ (.int .i64 a7)).setCell ⟨gr, 8, none⟩ (.bool true)).setCell ⟨gr, 9, none⟩ (.slice At terms.length ct)).setCell ⟨gr, 10, none⟩ (.slice Au dn.length cu)).setCell ⟨gr, 11, none⟩ (.slice A1 old.length c1)).setCell ⟨gr, 12, none⟩ (.slice A2 new.length c2)) = w14.setCells gr 0 [.int .i64 v0, .int .i64 v1, .int .i64 v2, .int .i64 kd, .int .i64 a4, .int .i64 a5, .int .i64 a6, .int .i64 a7, .bool true, .slice At terms.length ct, .slice Au dn.length cu, .slice A1 old.length c1, .slice A2 new.length c2] := rfl
          rw [hf]
          clear hf
          have hkr := Keep.setCells (F := fun k => k = gr) gr [.int .i64 v0, .int .i64 v1, .int .i64 v2, .int .i64 kd, .int .i64 a4, .int .i64 a5, .int .i64 a6, .int .i64 a7, .bool true, .slice At terms.length ct, .slice Au dn.length cu, .slice A1 old.length c1, .slice A2 new.length c2] 0 _ (Keep.refl (fun k => k = gr) w14) (.inl rfl)
          obtain ⟨cur, hc1, hc2, hc3⟩ := setCells_blk [.int .i64 v0, .int .i64 v1, .int .i64 v2, .int .i64 kd, .int .i64 a4, .int .i64 a5, .int .i64 a6, .int .i64 a7, .bool true, .slice At terms.length ct, .slice Au dn.length cu, .slice A1 old.length c1, .slice A2 new.length c2] 0 w14 zeroMsg HR14.out (Nat.le_refl 13)
          have hcur : cur = #[.int .i64 v0, .int .i64 v1, .int .i64 v2, .int .i64 kd, .int .i64 a4, .int .i64 a5, .int .i64 a6, .int .i64 a7, .bool true, .slice At terms.length ct, .slice Au dn.length cu, .slice A1 old.length c1, .slice A2 new.length c2] := by
            apply Array.toList_inj.1
            rw [hc3]
            rfl
          subst hcur
          generalize w14.setCells gr 0 [.int .i64 v0, .int .i64 v1, .int .i64 v2, .int .i64 kd, .int .i64 a4, .int .i64 a5, .int .i64 a6, .int .i64 a7, .bool true, .slice At terms.length ct, .slice Au dn.length cu, .slice A1 old.length c1, .slice A2 new.length c2] = W7 at *
          have r0 := blk_cell hc1 0
          have r1 := blk_cell hc1 1
          have r2 := blk_cell hc1 2
          have r3 := blk_cell hc1 3
          have r4 := blk_cell hc1 4
          have r5 := blk_cell hc1 5
          have r6 := blk_cell hc1 6
          have r7 := blk_cell hc1 7
          have r8 := blk_cell hc1 8
          have r9 := blk_cell hc1 9
          have r10 := blk_cell hc1 10
          have r11 := blk_cell hc1 11
          have r12 := blk_cell hc1 12
          simp only [List.getElem?_toArray, List.getElem?_cons_zero, List.getElem?_cons_succ] at r0 r1 r2 r3 r4 r5 r6 r7 r8 r9 r10 r11 r12
          have hO1 := hkr.own HP14.out (fun k hk e => (HA1.out k hk).2.2 e)
          have hO2 := hkr.own HQ14.out (fun k hk e => (HA2.out k hk).2.2 e)
          have hT := hkr.own HT14.out (fun k hk e => (HA.out k hk).2.2 e)
          have hU := Kd.R_mono (Kd.R_step HU14.out (fun k hk hlt => hkr.block k hlt hk.2.2.1)) (fun _ _ => trivial)
          have hB7 := HB14.out.trans (hkr.to_below HB14.out.size (fun k hk => by have e : k = gr := hk; rw [e, HGR.out]; exact Nat.le_refl _))
          refine bodyPost_ret (v := .tuple #[.agg #[.int .i64 v0, .int .i64 v1, .int .i64 v2, .int .i64 kd, .int .i64 a4, .int .i64 a5, .int .i64 a6, .int .i64 a7, .bool true, .slice At terms.length ct, .slice Au dn.length cu, .slice A1 old.length c1, .slice A2 new.length c2], .int .i64 0]) (by simp [results, Tryd.results15, go_sem, r0, r1, r2, r3, r4, r5, r6, r7, r8, r9, r10, r11, r12]) rfl ⟨At, ct, Au, cu, A1, c1, A2, c2, rfl, hT, hU, hO1, hO2, hB7⟩
        · have hm := HM.out
          rw [if_neg he] at hm
          subst hm
          have heb : (E == 0) = false := beq_eq_false_iff_ne.mpr he
          go_wp2_with (first
            | (go_at_call 44
               have hbw13 := B13.out.keep.to_below (Nat.le_refl w.heap.size) (fun k hk => by have e : k = b := hk; rw [e]; exact HBW.out)
               refine (end_any _ w.heap.size b F13 s13 (HG.out.below hbw13) H0.out B13.out.rd).mono ?_
               rintro r w14 ⟨rfl, k14⟩
               rw [EE.out]
               have hbe := k14.blk B13.out.be (fun e => B13.out.ne.1 (by have e' : ge = b := e; rw [e']; exact B13.out.rd.1))
               have hbr := k14.blk B13.out.br HGB.out
               have HR14 := Lib.hid hbr
               have HB14 := Lib.hid (hbw13.trans (k14.to_below hbw13.size (fun k hk => by have e : k = b := hk; rw [e]; exact HBW.out)))
               have HP14 := Lib.hid (k14.own HP13.out (fun k hk e => (HA1.out k hk).1 e))
               have HQ14 := Lib.hid (k14.own HQ13.out (fun k hk e => (HA2.out k hk).1 e))
               have HT14 := Lib.hid (k14.own HT13.out (fun k hk e => (HA.out k hk).1 e))
               have HU14 := Lib.hid (Kd.R_step HU13.out (fun k hk hlt => k14.block k hlt hk.1))
               have q0 := blk_cell hbe 0
               have q1 := blk_cell hbe 1
               have q2 := blk_cell hbe 2
               have q3 := blk_cell hbe 3
               have q4 := blk_cell hbe 4
               have q5 := blk_cell hbe 5
               have q6 := blk_cell hbe 6
               have q7 := blk_cell hbe 7
               have q8 := blk_cell hbe 8
               have q9 := blk_cell hbe 9
               have q10 := blk_cell hbe 10
               have q11 := blk_cell hbe 11
               have q12 := blk_cell hbe 12
               have r0 := blk_cell hbr 0
               have r1 := blk_cell hbr 1
               have r2 := blk_cell hbr 2
               have r3 := blk_cell hbr 3
               have r4 := blk_cell hbr 4
               have r5 := blk_cell hbr 5
               have r6 := blk_cell hbr 6
               have r7 := blk_cell hbr 7
               have r8 := blk_cell hbr 8
               have r9 := blk_cell hbr 9
               have r10 := blk_cell hbr 10
               have r11 := blk_cell hbr 11
               have r12 := blk_cell hbr 12
               have f0 := fun j => blk_frozen hbr j
               clear hbw13 k14 hbe hbr)
            | (go_at_call 43
               have hE5 := aConfig_any wr w.heap.size b G s' HBX.out.rd
               rw [VO.out, VN.out, E13.out] at hE5
               refine hE5.mono ?_
               rintro r w13 ⟨A1, c1, A2, c2, F13, rfl, o1, o2, r13, f13, k13, n1, n2⟩
               have b13 := HBX.out.after r13 f13 k13
               have q11 := blk_cell b13.be 11
               have fq11 := blk_frozen b13.be 11
               have q12 := blk_cell b13.be 12
               have fq12 := blk_frozen b13.be 12
               have B13 := Lib.hid ((b13.store 11 (.slice A1 old.length c1) rfl).store 12 (.slice A2 new.length c2) rfl)
               have hke : Keep (fun k => k = ge) w13 ((w13.setCell ⟨ge, 11, none⟩ (.slice A1 old.length c1)).setCell ⟨ge, 12, none⟩ (.slice A2 new.length c2)) := ((Keep.refl (fun k => k = ge) w13).setCell ⟨ge, 11, none⟩ _ (.inl rfl)).setCell ⟨ge, 12, none⟩ _ (.inl rfl)
               have hkw : w.heap.size ≤ wr.heap.size := HBX.out.keep.size
               have hlb := blk_lt HBX.out.be
               have hlr := blk_lt HBX.out.br
               have hlbb := (HBX.out.rd.2.1 b HBX.out.rd.1).2
               have HA1 := Lib.hid (show ∀ k, (Value.slice A1 old.length c1).ownBlock = some k → ¬ k = b ∧ ¬ k = ge ∧ ¬ k = gr from fun k hk => by have := own_base o1 k hk; omega)
               have HA2 := Lib.hid (show ∀ k, (Value.slice A2 new.length c2).ownBlock = some k → ¬ k = b ∧ ¬ k = ge ∧ ¬ k = gr from fun k hk => by have := own_base o2 k hk; omega)
               have HP13 := Lib.hid (hke.own (own_less o1 hkw) (fun k hk e => (HA1.out k hk).2.1 e))
               have HQ13 := Lib.hid (hke.own (own_less o2 hkw) (fun k hk e => (HA2.out k hk).2.1 e))
               have HT13 := Lib.hid (hke.own (k13.own HTR.out (fun k hk e => (HA.out k hk).1 e)) (fun k hk e => (HA.out k hk).2.1 e))
               have HU13 := Lib.hid (Kd.R_step (Kd.R_step HU.out (fun k hk hlt => k13.block k hlt hk.1)) (fun k hk hlt => hke.block k hlt hk.2.1))
               clear o1 o2 r13 f13 k13 n1 n2 b13 hke hkw hlb hlr hlbb hE5))
          clear q0 q1 q2 q3 q4 q5 q6 q7 q8 q9 q10 q11 q12 r0 r1 r2 r3 r4 r5 r6 r7 r8 r9 r10 r11 r12 f0 fq11 fq12
          have hf : (((((((((((((w14.setCell ⟨gr, 0, none⟩ (.int .i64 0)).setCell ⟨gr, 1, none⟩ (.int .i64 0)).setCell ⟨gr, 2, none⟩ (.int .i64 0)).setCell ⟨gr, 3, none⟩ (.int .i64 0)).setCell ⟨gr, 4, none⟩ (.int .i64 0)).setCell ⟨gr, 5, none⟩ (.int .i64 0)).setCell ⟨gr, 6, none⟩ (.int .i64 0)).setCell ⟨gr, 7, none⟩ (.int .i64 0)).setCell ⟨gr, 8, none⟩ (.bool false)).setCell ⟨gr, 9, none⟩ (.slice none 0 0)).setCell ⟨gr, 10, none⟩ (.slice none 0 0)).setCell ⟨gr, 11, none⟩ (.slice none 0 0)).setCell ⟨gr, 12, none⟩ (.slice none 0 0)) = w14.setCells gr 0 [.int .i64 0, .int .i64 0, .int .i64 0, .int .i64 0, .int .i64 0, .int .i64 0, .int .i64 0, .int .i64 0, .bool false, .slice none 0 0, .slice none 0 0, .slice none 0 0, .slice none 0 0] := rfl
          rw [hf]
          clear hf
          have hkr := Keep.setCells (F := fun k => k = gr) gr [.int .i64 0, .int .i64 0, .int .i64 0, .int .i64 0, .int .i64 0, .int .i64 0, .int .i64 0, .int .i64 0, .bool false, .slice none 0 0, .slice none 0 0, .slice none 0 0, .slice none 0 0] 0 _ (Keep.refl (fun k => k = gr) w14) (.inl rfl)
          obtain ⟨cur, hc1, hc2, hc3⟩ := setCells_blk [.int .i64 0, .int .i64 0, .int .i64 0, .int .i64 0, .int .i64 0, .int .i64 0, .int .i64 0, .int .i64 0, .bool false, .slice none 0 0, .slice none 0 0, .slice none 0 0, .slice none 0 0] 0 w14 zeroMsg HR14.out (Nat.le_refl 13)
          have hcur : cur = #[.int .i64 0, .int .i64 0, .int .i64 0, .int .i64 0, .int .i64 0, .int .i64 0, .int .i64 0, .int .i64 0, .bool false, .slice none 0 0, .slice none 0 0, .slice none 0 0, .slice none 0 0] := by
            apply Array.toList_inj.1
            rw [hc3]
            rfl
          subst hcur
          generalize w14.setCells gr 0 [.int .i64 0, .int .i64 0, .int .i64 0, .int .i64 0, .int .i64 0, .int .i64 0, .int .i64 0, .int .i64 0, .bool false, .slice none 0 0, .slice none 0 0, .slice none 0 0, .slice none 0 0] = W7 at *
          have r0 := blk_cell hc1 0
          have r1 := blk_cell hc1 1
          have r2 := blk_cell hc1 2
          have r3 := blk_cell hc1 3
          have r4 := blk_cell hc1 4
          have r5 := blk_cell hc1 5
          have r6 := blk_cell hc1 6
          have r7 := blk_cell hc1 7
          have r8 := blk_cell hc1 8
          have r9 := blk_cell hc1 9
          have r10 := blk_cell hc1 10
          have r11 := blk_cell hc1 11
          have r12 := blk_cell hc1 12
          simp only [List.getElem?_toArray, List.getElem?_cons_zero, List.getElem?_cons_succ] at r0 r1 r2 r3 r4 r5 r6 r7 r8 r9 r10 r11 r12
          have hB7 := HB14.out.trans (hkr.to_below HB14.out.size (fun k hk => by have e : k = gr := hk; rw [e, HGR.out]; exact Nat.le_refl _))
          refine bodyPost_ret (v := .tuple #[.agg #[.int .i64 0, .int .i64 0, .int .i64 0, .int .i64 0, .int .i64 0, .int .i64 0, .int .i64 0, .int .i64 0, .bool false, .slice none 0 0, .slice none 0 0, .slice none 0 0, .slice none 0 0], .int .i64 E]) (by simp [results, Tryd.results15, go_sem, r0, r1, r2, r3, r4, r5, r6, r7, r8, r9, r10, r11, r12]) rfl ⟨none, 0, none, 0, none, 0, none, 0, rfl, own_nil _ _ _ _, Kd.R_nil _ _ _ _ _, own_nil _ _ _ _, own_nil _ _ _ _, hB7⟩
end Go.Proofs.YtkdlghbfplhkpaaDoor
