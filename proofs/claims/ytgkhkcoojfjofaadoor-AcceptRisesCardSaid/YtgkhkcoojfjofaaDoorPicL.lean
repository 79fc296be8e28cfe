/- AcceptPicks. -/
import Derived.Test.YtgkhkcoojfjofaaDoorAccQ
set_option linter.unusedVariables false
set_option linter.unusedSimpArgs false
namespace Go.Proofs.YtgkhkcoojfjofaaDoor
open Go.RowKit Go.Shelf Go.Proofs.YtgkhkcoojfjofaaDoorW.PrintWords Go.Proofs.Mine

theorem infoRV : (Tryd.prog.info? 58).map (fun i => (i.zero, i.size, i.bytes)) = some (some (.agg #[.int .i64 0, .int .i64 0, .int .i64 0, .int .i64 0, .int .i64 0, .string ByteArray.empty, .slice none 0 0, .int .i64 0]), 8, 88) := by kernel_rfl
set_option maxRecDepth 100000 in
set_option maxHeartbeats 2000000 in
theorem picks_any (A : Option Addr) (c : Nat) (l : List Vh) (slot : Int) (w : World) (h : VRow w A l.length l) (hin : VIn w l) :
    Calls Tryd.prog 6 #[.slice A l.length c, .int .i64 slot] w fun r w' => r = .returned (.bool true) ∧ Below w.heap.size w w' := by
  have H := Lib.hid h
  have HIN := Lib.hid hin
  have hmx := h.2.1
  clear h hin
  by_cases hgo : 40 < l.length
  · have hgoi : (40 : Int) < (l.length : Int) := by omega
    clear hgo
    go_enter Tryd.func6, Tryd.ntmps6
    go_wp2_with (go_at_call 9; refine (known_any w).mono ?_; rintro r w0 ⟨rfl, hB0⟩; have HB0 := Lib.hid hB0; clear hB0)
    go_ret
    exact ⟨rfl, HB0.out⟩
  · have hgoi : ¬ (40 : Int) < (l.length : Int) := by omega
    go_enter Tryd.func6, Tryd.ntmps6
    go_wp2_with (go_at_call 9; refine (known_any w).mono ?_; rintro r w0 ⟨rfl, hB0⟩; have HB0 := Lib.hid hB0; clear hB0)
    go_loopw [5, 6] (fun m iv wr => ∃ (k : Nat), k ≤ l.length ∧ iv = .int .i64 (k : Int) ∧ RowKit.Hid (vhK.R 58 wr w.heap.size (fun _ => True) m (l.take k)) ∧ RowKit.Hid (∀ x ∈ l.take k, x.mem.length ≤ 1000000) ∧ RowKit.Hid (Below w.heap.size w wr)) (fun _ iv _ => l.length - (intOf iv).toNat)
    case atStart => exact ⟨0, by omega, rfl, Lib.hid (by rw [List.take_zero]; exact Kd.R_nil _ _ _ _ _), Lib.hid (by simp), HB0⟩
    case round =>
      rename_i wr
      obtain ⟨k, hk, rfl, HU, HF, HBk⟩ := hrel
      by_cases hlt : k < l.length
      · have hlt2 : (k : Int) < (l.length : Int) := by omega
        have hk0 : (0 : Int) ≤ (k : Int) := by omega
        obtain ⟨x, hx⟩ : ∃ x, l[k]? = some x := ⟨_, List.getElem?_eq_getElem hlt⟩
        obtain ⟨ad, rfl, hv⟩ := vh_at H.out hx
        obtain ⟨v0, v1, v2, v3, v4, v5, v6, v7⟩ := hv.below HBk.out
        obtain ⟨ea, hea⟩ : ∃ ea, ea = ad.add (k * 8) := ⟨_, rfl⟩
        rw [← hea] at v0 v1 v2 v3 v4 v5 v6 v7
        have hea2 := hea.symm
        have HV := Lib.hid (show VAt w ea x from by rw [hea]; exact hv)
        have HX := Lib.hid hx
        have HT := Lib.hid (show l.take (k + 1) = l.take k ++ [x] from by rw [List.take_add_one, hx]; rfl)
        obtain ⟨fw, hfw⟩ : ∃ b, b = (decide ((x.data.size : Int) < 300) && decide ((x.mem.length : Int) < 50)) := ⟨_, rfl⟩
        have HFW := Lib.hid hfw
        have hfew := few_lit x.kd x.c x.q x.data x.mem.length x.dst x.A x.cap wr
        rw [← hfw] at hfew
        have HFEW := Lib.hid hfew
        obtain ⟨dn, hdn⟩ : ∃ dn, dn = l.take k := ⟨_, rfl⟩
        rw [← hdn] at HU HT HF
        have hdl : dn.length ≤ 40 := by rw [hdn, List.length_take]; omega
        clear hea hv hx hfw hfew hdn
        obtain ⟨Au, cu, rfl⟩ := Kd.R_slice HU.out
        cases fw with
        | false =>
          go_wp2_with (go_at_call 11; refine HFEW.out.mono ?_; rintro r w1 ⟨rfl, hB1⟩; have HB1 := Lib.hid (HBk.out.trans (hB1.mono HBk.out.size)); clear hB1)
          go_ret
          exact ⟨rfl, HB1.out⟩
        | true =>
          have HML := Lib.hid (show x.mem.length ≤ 1000000 from by have := HFW.out; simp at this; omega)
          go_wp2_with (go_at_call 11; refine HFEW.out.mono ?_; rintro r w1 ⟨rfl, hB1⟩
                       have HB1 := Lib.hid (HBk.out.trans (hB1.mono HBk.out.size))
                       have HU1 := Lib.hid (Kd.R_below HU.out hB1)
                       have v0 := pw_cell_below hB1 v0
                       have v1 := pw_cell_below hB1 v1
                       have v2 := pw_cell_below hB1 v2
                       have v3 := pw_cell_below hB1 v3
                       have v4 := pw_cell_below hB1 v4
                       have v5 := pw_cell_below hB1 v5
                       have v6 := pw_cell_below hB1 v6
                       have v7 := pw_cell_below hB1 v7
                       clear hB1)
          refine wp_region_noPanic ?_
          refine wp_region_held_drew (S := (fun w' => w'.cell? ea = some (.int .i64 x.s) ∧ w'.cell? ⟨ea.block, ea.off + 1, none⟩ = some (.int .i64 x.b) ∧ w'.cell? ⟨ea.block, ea.off + 2, none⟩ = some (.int .i64 x.kd) ∧ w'.cell? ⟨ea.block, ea.off + 3, none⟩ = some (.int .i64 x.c) ∧ w'.cell? ⟨ea.block, ea.off + 4, none⟩ = some (.int .i64 x.q) ∧ w'.cell? ⟨ea.block, ea.off + 5, none⟩ = some (.string x.data) ∧ w'.cell? ⟨ea.block, ea.off + 6, none⟩ = some (.slice x.A x.mem.length x.cap) ∧ w'.cell? ⟨ea.block, ea.off + 7, none⟩ = some (.int .i64 x.dst))) (by kernel_rfl) ?pis0 (fun hHeld0 => ?pir0)
          case pis0 => (try dsimp only) <;> exact ⟨v0, v1, v2, v3, v4, v5, v6, v7⟩
          refine wpAnyH_take (i := 0) (v := ?vpi1) (by simp only [List.getElem?_toArray, List.getElem?_cons_zero, List.getElem?_cons_succ]; rfl) (by kernel_rfl) (by kernel_rfl) (by kernel_rfl) (fun _ _ _ h => h) (Or.inl ⟨by rfl, ?hpi1⟩) hHeld0 ?qpi1
          case hpi1 => (intro w hSw; (try dsimp only at hSw); go_simp <;> with_reducible rfl)
          try simp only [Act.put, List.setIfInBounds_toArray, List.set_cons_zero, List.set_cons_succ]
          refine wpAnyH_take (i := 1) (v := ?vpi2) (by simp only [List.getElem?_toArray, List.getElem?_cons_zero, List.getElem?_cons_succ]; rfl) (by kernel_rfl) (by kernel_rfl) (by kernel_rfl) (fun _ _ _ h => h) (Or.inl ⟨by rfl, ?hpi2⟩) hHeld0 ?qpi2
          case hpi2 => (intro w hSw; (try dsimp only at hSw); go_simp <;> with_reducible rfl)
          try simp only [Act.put, List.setIfInBounds_toArray, List.set_cons_zero, List.set_cons_succ]
          refine wpAnyH_take (i := 2) (v := ?vpi3) (by simp only [List.getElem?_toArray, List.getElem?_cons_zero, List.getElem?_cons_succ]; rfl) (by kernel_rfl) (by kernel_rfl) (by kernel_rfl) (fun _ _ _ h => h) (Or.inl ⟨by rfl, ?hpi3⟩) hHeld0 ?qpi3
          case hpi3 => (intro w hSw; (try dsimp only at hSw); go_simp <;> with_reducible rfl)
          try simp only [Act.put, List.setIfInBounds_toArray, List.set_cons_zero, List.set_cons_succ]
          refine wpAnyH_take (i := 3) (v := ?vpi4) (by simp only [List.getElem?_toArray, List.getElem?_cons_zero, List.getElem?_cons_succ]; rfl) (by kernel_rfl) (by kernel_rfl) (by kernel_rfl) (fun _ _ _ h => h) (Or.inl ⟨by rfl, ?hpi4⟩) hHeld0 ?qpi4
          case hpi4 => (intro w hSw; (try dsimp only at hSw); go_simp <;> with_reducible rfl)
          try simp only [Act.put, List.setIfInBounds_toArray, List.set_cons_zero, List.set_cons_succ]
          refine wpAnyH_take (i := 4) (v := ?vpi5) (by simp only [List.getElem?_toArray, List.getElem?_cons_zero, List.getElem?_cons_succ]; rfl) (by kernel_rfl) (by kernel_rfl) (by kernel_rfl) (fun _ _ _ h => h) (Or.inl ⟨by rfl, ?hpi5⟩) hHeld0 ?qpi5
          case hpi5 => (intro w hSw; (try dsimp only at hSw); go_simp <;> with_reducible rfl)
          try simp only [Act.put, List.setIfInBounds_toArray, List.set_cons_zero, List.set_cons_succ]
          refine wpAnyH_take (i := 5) (v := ?vpi6) (by simp only [List.getElem?_toArray, List.getElem?_cons_zero, List.getElem?_cons_succ]; rfl) (by kernel_rfl) (by kernel_rfl) (by kernel_rfl) (fun _ _ _ h => h) (Or.inl ⟨by rfl, ?hpi6⟩) hHeld0 ?qpi6
          case hpi6 => (intro w hSw; (try dsimp only at hSw); go_simp <;> with_reducible rfl)
          try simp only [Act.put, List.setIfInBounds_toArray, List.set_cons_zero, List.set_cons_succ]
          refine wpAnyH_take (i := 6) (v := ?vpi7) (by simp only [List.getElem?_toArray, List.getElem?_cons_zero, List.getElem?_cons_succ]; rfl) (by kernel_rfl) (by kernel_rfl) (by kernel_rfl) (fun _ _ _ h => h) (Or.inl ⟨by rfl, ?hpi7⟩) hHeld0 ?qpi7
          case hpi7 => (intro w hSw; (try dsimp only at hSw); go_simp <;> with_reducible rfl)
          try simp only [Act.put, List.setIfInBounds_toArray, List.set_cons_zero, List.set_cons_succ]
          refine wpAnyH_take (i := 7) (v := ?vpi8) (by simp only [List.getElem?_toArray, List.getElem?_cons_zero, List.getElem?_cons_succ]; rfl) (by kernel_rfl) (by kernel_rfl) (by kernel_rfl) (fun _ _ _ h => h) (Or.inl ⟨by rfl, ?hpi8⟩) hHeld0 ?qpi8
          case hpi8 => (intro w hSw; (try dsimp only at hSw); go_simp <;> with_reducible rfl)
          try simp only [Act.put, List.setIfInBounds_toArray, List.set_cons_zero, List.set_cons_succ]
          refine wpAnyH_take (i := 8) (v := ?vpi9) (by simp only [List.getElem?_toArray, List.getElem?_cons_zero, List.getElem?_cons_succ]; rfl) (by kernel_rfl) (by kernel_rfl) (by kernel_rfl) (fun _ _ _ h => h) (Or.inl ⟨by rfl, ?hpi9⟩) hHeld0 ?qpi9
          case hpi9 => (intro w hSw; (try dsimp only at hSw); go_simp <;> with_reducible rfl)
          try simp only [Act.put, List.setIfInBounds_toArray, List.set_cons_zero, List.set_cons_succ]
          refine wpAnyH_take (i := 9) (v := ?vpi10) (by simp only [List.getElem?_toArray, List.getElem?_cons_zero, List.getElem?_cons_succ]; rfl) (by kernel_rfl) (by kernel_rfl) (by kernel_rfl) (fun _ _ _ h => h) (Or.inl ⟨by rfl, ?hpi10⟩) hHeld0 ?qpi10
          case hpi10 => (intro w hSw; (try dsimp only at hSw); go_simp <;> with_reducible rfl)
          try simp only [Act.put, List.setIfInBounds_toArray, List.set_cons_zero, List.set_cons_succ]
          refine wpAnyH_take (i := 10) (v := ?vpi11) (by simp only [List.getElem?_toArray, List.getElem?_cons_zero, List.getElem?_cons_succ]; rfl) (by kernel_rfl) (by kernel_rfl) (by kernel_rfl) (fun _ _ _ h => h) (Or.inl ⟨by rfl, ?hpi11⟩) hHeld0 ?qpi11
          case hpi11 => (intro w hSw; (try dsimp only at hSw); go_simp <;> with_reducible rfl)
          try simp only [Act.put, List.setIfInBounds_toArray, List.set_cons_zero, List.set_cons_succ]
          refine wpAnyH_take (i := 11) (v := ?vpi12) (by simp only [List.getElem?_toArray, List.getElem?_cons_zero, List.getElem?_cons_succ]; rfl) (by kernel_rfl) (by kernel_rfl) (by kernel_rfl) (fun _ _ _ h => h) (Or.inl ⟨by rfl, ?hpi12⟩) hHeld0 ?qpi12
          case hpi12 => (intro w hSw; (try dsimp only at hSw); go_simp <;> with_reducible rfl)
          try simp only [Act.put, List.setIfInBounds_toArray, List.set_cons_zero, List.set_cons_succ]
          refine wpAnyH_take (i := 12) (v := ?vpi13) (by simp only [List.getElem?_toArray, List.getElem?_cons_zero, List.getElem?_cons_succ]; rfl) (by kernel_rfl) (by kernel_rfl) (by kernel_rfl) (fun _ _ _ h => h) (Or.inl ⟨by rfl, ?hpi13⟩) hHeld0 ?qpi13
          case hpi13 => (intro w hSw; (try dsimp only at hSw); go_simp <;> with_reducible rfl)
          try simp only [Act.put, List.setIfInBounds_toArray, List.set_cons_zero, List.set_cons_succ]
          refine wpAnyH_take (i := 13) (v := ?vpi14) (by simp only [List.getElem?_toArray, List.getElem?_cons_zero, List.getElem?_cons_succ]; rfl) (by kernel_rfl) (by kernel_rfl) (by kernel_rfl) (fun _ _ _ h => h) (Or.inl ⟨by rfl, ?hpi14⟩) hHeld0 ?qpi14
          case hpi14 => (intro w hSw; (try dsimp only at hSw); go_simp <;> with_reducible rfl)
          try simp only [Act.put, List.setIfInBounds_toArray, List.set_cons_zero, List.set_cons_succ]
          refine wpAnyH_take (i := 14) (v := ?vpi15) (by simp only [List.getElem?_toArray, List.getElem?_cons_zero, List.getElem?_cons_succ]; rfl) (by kernel_rfl) (by kernel_rfl) (by kernel_rfl) (fun _ _ _ h => h) (Or.inl ⟨by rfl, ?hpi15⟩) hHeld0 ?qpi15
          case hpi15 => (intro w hSw; (try dsimp only at hSw); go_simp <;> with_reducible rfl)
          try simp only [Act.put, List.setIfInBounds_toArray, List.set_cons_zero, List.set_cons_succ]
          refine wpAnyH_take (i := 15) (v := ?vpi16) (by simp only [List.getElem?_toArray, List.getElem?_cons_zero, List.getElem?_cons_succ]; rfl) (by kernel_rfl) (by kernel_rfl) (by kernel_rfl) (fun _ _ _ h => h) (Or.inl ⟨by rfl, ?hpi16⟩) hHeld0 ?qpi16
          case hpi16 => (intro w hSw; (try dsimp only at hSw); go_simp <;> with_reducible rfl)
          try simp only [Act.put, List.setIfInBounds_toArray, List.set_cons_zero, List.set_cons_succ]
          refine wpAnyH_take (i := 16) (v := ?vpi17) (by simp only [List.getElem?_toArray, List.getElem?_cons_zero, List.getElem?_cons_succ]; rfl) (by kernel_rfl) (by kernel_rfl) (by kernel_rfl) (fun _ _ _ h => h) (Or.inl ⟨by rfl, ?hpi17⟩) hHeld0 ?qpi17
          case hpi17 => (intro w hSw; (try dsimp only at hSw); go_simp <;> with_reducible rfl)
          try simp only [Act.put, List.setIfInBounds_toArray, List.set_cons_zero, List.set_cons_succ]
          refine wpAnyH_ready (rs := [17]) (by kernel_rfl) (by simp) ?_
          refine AllReadyH.cons (by simp only [List.getElem?_toArray, List.getElem?_cons_zero, List.getElem?_cons_succ]; rfl) (fun K hK => ?_) AllReadyH.nil
          go_simp
          obtain ⟨wd, hwd⟩ : ∃ z, z = w1.drew := ⟨_, rfl⟩
          rw [show (w1.alloc (.cells #[.int .i64 x.s, .int .i64 x.b, .int .i64 x.kd, .int .i64 x.c, .int .i64 x.q, .string x.data, .slice x.A x.mem.length x.cap, .int .i64 x.dst] 58)).drew = wd.alloc (.cells x.cells.toArray 58) from by rw [hwd]; rfl]
          have hsd : w1.heap.size = wd.heap.size := by rw [hwd]; rfl
          rw [hsd]
          have HBd := Lib.hid (show Below w.heap.size w wd from by rw [hwd]; exact HB1.out.drew)
          have HUd := Lib.hid (show vhK.R 58 wd w.heap.size (fun _ => True) (.slice Au dn.length cu) dn from by rw [hwd]; exact Kd.R_below HU1.out ((Below.refl _ w1).drew))
          clear hwd hsd
          refine hK.out _ _ ?spi18 (fun hHeld1 => ?qpi18)
          case spi18 => (try dsimp only) <;> exact HV.out.below (HBd.out.alloc HBd.out.size _)
          clear hK K
          try simp only [Act.put, List.setIfInBounds_toArray, List.set_cons_zero, List.set_cons_succ]
          refine wpAnyH_ready (rs := [18]) (by kernel_rfl) (by simp) ?_
          refine AllReadyH.cons (by simp only [List.getElem?_toArray, List.getElem?_cons_zero, List.getElem?_cons_succ]; rfl) (fun K hK => ?_) AllReadyH.nil
          refine Kd.R_append_step vhK (w0 := w) (W := wd) w.heap.size (by rfl) _ _ 47 58 _ 88 rfl Tryd.underlying47 infoRV rfl (by decide) (by decide) (.slice Au dn.length cu) dn x x.cells (fun _ => True) (fun _ => False) rfl rfl rfl (fun k h => h.elim) (fun _ _ => trivial) HUd.out HBd.out HBd.out.size (by omega) ?_
          intro v2 w2 hR2 hB2 _ _
          rw [← HT.out] at hR2
          have HR2 := Lib.hid hR2
          have HB2 := Lib.hid hB2
          clear hR2 hB2
          refine hK.out _ _ ?spi19 (fun hHeld2 => ?qpi19)
          case spi19 => (try dsimp only) <;> exact HV.out.below HB2.out
          clear hK K
          try simp only [Act.put, List.setIfInBounds_toArray, List.set_cons_zero, List.set_cons_succ]
          refine wpAnyH_take (i := 19) (v := ?vpi20) (by simp only [List.getElem?_toArray, List.getElem?_cons_zero, List.getElem?_cons_succ]; rfl) (by kernel_rfl) (by kernel_rfl) (by kernel_rfl) (fun _ _ _ h => h) (Or.inl ⟨by rfl, ?hpi20⟩) hHeld2 ?qpi20
          case hpi20 => (intro w hSw; (try dsimp only at hSw); go_simp <;> with_reducible rfl)
          try simp only [Act.put, List.setIfInBounds_toArray, List.set_cons_zero, List.set_cons_succ]
          refine wpAnyH_done (by kernel_rfl) ?_ _
          refine NoPanic.normal ?_
          go_wp2_with fail
          exact ⟨⟨k + 1, by omega, by simp, HR2, Lib.hid (fun z hz => by
            rw [HT.out] at hz
            rcases List.mem_append.1 hz with hz | hz
            · exact HF.out z hz
            · rw [List.mem_singleton.1 hz]; exact HML.out), HB2⟩, by simp [intOf]; omega⟩
      · obtain rfl : k = l.length := by omega
        rw [List.take_length] at HU HF
        obtain ⟨Am, cm, rfl⟩ := Kd.R_slice HU.out
        have HM := Lib.hid ((Kd.R_reads' HU.out).2.2)
        have HL := Lib.hid (H.out.below HBk.out)
        have HI := Lib.hid (HIN.out.below HBk.out)
        have HP := Lib.hid (pick_any A c l slot wr HL.out HI.out HF.out)
        have HBI := Lib.hid (best_in (slot := slot) (k := l.length) HI.out)
        have HRP := Lib.hid (fun W (hB : Below wr.heap.size wr W) => rpick_any Am cm l slot W (VRow.below (show VRow wr Am l.length l from HM.out) hB))
        generalize best l (pk l slot l.length) = y at *
        generalize (pk l slot l.length).isSome = is at *
        go_wp2_with (first
          | (go_at_call 22; refine (sameEntry_lit y.kd y.c y.q y.data y.mem y.dst A1 y.A c1 y.cap W3 HR1.out HR2.out).mono ?_; rintro r w4 ⟨rfl, hB4⟩; have HB4 := Lib.hid (HB3.out.trans (hB4.mono HB3.out.size)); clear hB4)
          | (go_at_call 21
             generalize hW : w1.alloc _ = W
             have hBW : Below wr.heap.size wr W := by rw [← hW]; exact HB1.out.alloc HB1.out.size _
             have hb7 : W.heap[w1.heap.size]? = some (.cells #[.int .i64 y.kd, .int .i64 y.c, .int .i64 y.q, .string y.data, .slice A1 y.mem.length c1, .int .i64 y.dst] 29 (0, 0)) := by rw [← hW]; exact heap_alloc_new w1 _
             refine (HRP.out W hBW).mono ?_
             rintro r w2 ⟨rfl, hB2⟩
             unfold entV
             obtain ⟨W3, hW3⟩ : ∃ z, w2.alloc (.cells #[.int .i64 y.kd, .int .i64 y.c, .int .i64 y.q, .string y.data, .slice y.A y.mem.length y.cap, .int .i64 y.dst] 29) = z := ⟨_, rfl⟩
             have hB3 : Below w2.heap.size w2 W3 := by rw [← hW3]; exact (Below.refl _ w2).alloc (Nat.le_refl _) _
             have hb9 : W3.heap[w2.heap.size]? = some (.cells #[.int .i64 y.kd, .int .i64 y.c, .int .i64 y.q, .string y.data, .slice y.A y.mem.length y.cap, .int .i64 y.dst] 29 (0, 0)) := by rw [← hW3]; exact heap_alloc_new w2 _
             have hb73 := blk_below (blk_below hb7 hB2) hB3
             have d0 : W3.cell? ⟨w1.heap.size, 0, none⟩ = some (.int .i64 y.kd) := blk_cell hb73 0
             have d1 : W3.cell? ⟨w1.heap.size, 1, none⟩ = some (.int .i64 y.c) := blk_cell hb73 1
             have d2 : W3.cell? ⟨w1.heap.size, 2, none⟩ = some (.int .i64 y.q) := blk_cell hb73 2
             have d3 : W3.cell? ⟨w1.heap.size, 3, none⟩ = some (.string y.data) := blk_cell hb73 3
             have d4 : W3.cell? ⟨w1.heap.size, 4, none⟩ = some (.slice A1 y.mem.length c1) := blk_cell hb73 4
             have d5 : W3.cell? ⟨w1.heap.size, 5, none⟩ = some (.int .i64 y.dst) := blk_cell hb73 5
             have e0 : W3.cell? ⟨w2.heap.size, 0, none⟩ = some (.int .i64 y.kd) := blk_cell hb9 0
             have e1 : W3.cell? ⟨w2.heap.size, 1, none⟩ = some (.int .i64 y.c) := blk_cell hb9 1
             have e2 : W3.cell? ⟨w2.heap.size, 2, none⟩ = some (.int .i64 y.q) := blk_cell hb9 2
             have e3 : W3.cell? ⟨w2.heap.size, 3, none⟩ = some (.string y.data) := blk_cell hb9 3
             have e4 : W3.cell? ⟨w2.heap.size, 4, none⟩ = some (.slice y.A y.mem.length y.cap) := blk_cell hb9 4
             have e5 : W3.cell? ⟨w2.heap.size, 5, none⟩ = some (.int .i64 y.dst) := blk_cell hb9 5
             have hB13 : Below w1.heap.size w1 W3 := by
               have h1 : Below w1.heap.size w1 W := by rw [← hW]; exact (Below.refl _ w1).alloc (Nat.le_refl _) _
               exact (h1.trans (hB2.mono h1.size)).trans (hB3.mono (Nat.le_trans h1.size hB2.size))
             have HR1 := Lib.hid (HRD.out.below hB13)
             have HR2 := Lib.hid (HBI.out.below (HB1.out.trans (hB13.mono HB1.out.size)))
             have HB3 := Lib.hid (HBk.out.trans ((HB1.out.trans (hB13.mono HB1.out.size)).mono HBk.out.size))
             clear hBW hb7 hB2 hB3 hb9 hb73 hB13 hW)
          | (go_at_call 20; refine HP.out.mono ?_; rintro r w1 ⟨A1, c1, rfl, hrd, hB1⟩
             unfold entV
             have HRD := Lib.hid hrd
             have HB1 := Lib.hid hB1
             clear hrd hB1))
        go_ret
        exact ⟨rfl, HB4.out⟩
end Go.Proofs.YtgkhkcoojfjofaaDoor
