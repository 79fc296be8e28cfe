/- The walk of ClientAgain. -/
import Derived.Test.YtacbebkaammcnaaDoorAgainP
import Derived.Deep.DeepCutAuto
set_option linter.unusedVariables false
set_option linter.unusedSimpArgs false
namespace Go.Proofs.YtacbebkaammcnaaDoor
open Go.RowKit Go.Proofs.YtacbebkaammcnaaDoorW.PrintWords Go.Proofs.Mine

theorem putx_lit {w0 w : World} {b : Nat} {F : Nat → Prop} {s : TSt} (x : Ent) (A : Option Addr) (cap : Nat) (h : TabIn w0 b s w F) (hr : ReadsInt w .i64 A x.mem.length x.mem) (hn : x.mem.length ≤ 1000000) (hl : s.l.length ≤ 1000000) :
    Calls Tryd.prog 10 #[.pointer (some ⟨b, 0, none⟩), .agg #[.int .i64 x.kd, .int .i64 x.c, .int .i64 x.q, .string x.data, .slice A x.mem.length cap, .int .i64 x.dst]] w fun e w' => e = .returned (.tuple #[.int .i64 (putN s x), .bool (okPut s x)]) ∧ ∃ F', TabIn w0 b (putS s x) w' F' ∧ (∀ k, F' k → F k ∨ w.heap.size ≤ k) ∧ Keep F w w' := put_any x A cap h hr hn hl
set_option maxRecDepth 100000 in
set_option maxHeartbeats 4000000 in
theorem clientAgain_any (A : Option Addr) (cap : Nat) (l : List Ent) (w : World) (hg : Laid w) (hr : entK.C w A l.length l) (hm : l.length ≤ 9223372036854775807) :
    Calls Tryd.prog 5 #[.slice A l.length cap] w fun e w' => e = .returned (.bool true) ∧ Below w.heap.size w w' := by
  have HR := Lib.hid hr
  have HG := Lib.hid hg
  clear hr hg
  by_cases h60 : (60 : Int) < (l.length : Int)
  · go_enter Tryd.func5, Tryd.ntmps5
    go_wp2_with (go_at_call 7; refine (known_any _ HG.out).mono ?_; rintro e w1 ⟨rfl, hB⟩; have HB1 := Lib.hid hB; clear hB)
    go_ret
    exact ⟨rfl, HB1.out⟩
  · go_enter Tryd.func5, Tryd.ntmps5
    go_wp2_with (first
      | (go_at_call 7; refine (known_any _ HG.out).mono ?_; rintro e w1 ⟨rfl, hB⟩; have HB1 := Lib.hid hB; clear hB)
      | (go_at_call 8; refine (new_tab _).mono ?_; rintro e w2 ⟨rfl, hw2⟩; have T2 := Lib.hid (tab_new HB1.out); rw [← hw2] at T2; clear hw2))
    generalize hb : w1.heap.size + 2 = b at *
    clear hb
    go_loopw [4] (fun iv wr => ∃ (k : Nat) (s : TSt) (F : Nat → Prop), k ≤ l.length ∧ iv = .int .i64 k ∧ Again l s k ∧ TabIn w b s wr F) (fun iv _ => l.length - (intOf iv).toNat)
    case atStart => exact ⟨0, tab0, _, by omega, rfl, again0 l, T2.out⟩
    case round =>
      obtain ⟨k, s, F, hk, rfl, hA, hT⟩ := hrel
      have HA := Lib.hid hA
      have HT := Lib.hid hT
      have hfew := hA.few
      clear hA hT
      by_cases hlt : k < l.length
      · obtain ⟨x, hx⟩ : ∃ x, l[k]? = some x := ⟨_, List.getElem?_eq_getElem hlt⟩
        obtain ⟨ad, rfl, hE⟩ := entAt_of HR.out hx
        have hBr : Below w.heap.size w wr := HT.out.2
        obtain ⟨Ax, cx, q0, q1, q2, q3, q4, q5, q6, q7⟩ := hE.below hBr
        have hlt' : (k : Int) < (l.length : Int) := by omega
        have hk0 : (0 : Int) ≤ (k : Int) := by omega
        generalize hea : ad.add (k * 6) = ea at *
        have HX := Lib.hid hx
        have HQ := Lib.hid q7
        clear hE hx q6 q7
        go_wp2_with fail
        refine (few_lit x.kd x.c x.q x.data x.mem.length x.dst Ax cx wr).mono ?_
        rintro e w3 ⟨rfl, hB3⟩
        have HT3 := Lib.hid (HT.out.below hB3)
        have HQ3 := Lib.hid (HQ.out.below hB3)
        have r0 := pw_cell_below hB3 q0
        have r1 := pw_cell_below hB3 q1
        have r2 := pw_cell_below hB3 q2
        have r3 := pw_cell_below hB3 q3
        have r4 := pw_cell_below hB3 q4
        have r5 := pw_cell_below hB3 q5
        clear hB3 q0 q1 q2 q3 q4 q5 HT HQ
        cases hfw : (decide ((x.data.size : Int) < 300) && decide ((x.mem.length : Int) < 50))
        · go_wp2_with fail
          go_ret
          exact ⟨rfl, HT3.out.2⟩
        · have hm50 : x.mem.length < 50 := by
            have := (Bool.and_eq_true _ _ ▸ hfw).2
            have := of_decide_eq_true this
            omega
          have hput := putx_lit x Ax cx HT3.out HQ3.out (by omega) (by omega)
          have HP := Lib.hid hput
          have HA2 := Lib.hid (HA.out.put HX.out (by omega))
          clear hput hfw
          generalize putS s x = s2 at *
          go_wp2_with (go_at_call 10; refine HP.out.mono ?_; rintro e w6 ⟨rfl, F6, hT6, _, _⟩; have HT6 := Lib.hid hT6; clear hT6)
          exact ⟨⟨k + 1, s2, F6, by omega, by simp, HA2.out, HT6.out⟩, by simp [intOf]; omega⟩
      · obtain rfl : k = l.length := by omega
        go_wp2_with fail
        refine (all_any wr w.heap.size F b s HT.out.1 (by omega) HA.out.mem).mono ?_
        rintro e w3 ⟨v, rfl, hR, hB3⟩
        obtain ⟨A2, c2, rfl⟩ := Kd.R_slice hR
        have HRR := Lib.hid (Kd.R_reads' hR).2.2
        have HT3 := Lib.hid (HT.out.below hB3)
        clear hR hB3
        go_wp2_with fail
        go_loopw [6] (fun iv wq => ∃ i : Nat, i ≤ l.length ∧ iv = .int .i64 i ∧ Below w3.heap.size w3 wq) (fun iv _ => l.length - (intOf iv).toNat)
        case atStart => exact ⟨0, by omega, rfl, Below.refl _ _⟩
        case round =>
          obtain ⟨i, hi, rfl, hBq⟩ := hrel
          have HBQ := Lib.hid hBq
          have HTq := Lib.hid (HT3.out.below hBq)
          clear hBq
          by_cases hlt2 : i < l.length
          · obtain ⟨x, hx⟩ : ∃ x, l[i]? = some x := ⟨_, List.getElem?_eq_getElem hlt2⟩
            obtain ⟨ad, rfl, hE⟩ := entAt_of HR.out hx
            have hBr : Below w.heap.size w wr := HTq.out.2
            obtain ⟨Ax, cx, q0, q1, q2, q3, q4, q5, q6, q7⟩ := hE.below hBr
            have hi' : (i : Int) < (l.length : Int) := by omega
            have hi0 : (0 : Int) ≤ (i : Int) := by omega
            generalize hea : ad.add (i * 6) = ea at *
            have HN := Lib.hid (put_no wr w.heap.size F b s x (.slice Ax x.mem.length cx) HTq.out.1 (HA.out.no i x hlt2 hx))
            clear hE hx q6 q7
            go_wp2_with (go_at_call 10; refine HN.out.mono ?_; rintro e w6 ⟨rfl, hB6⟩; have HB6 := Lib.hid (below_then HBQ.out HBQ.out.size hB6); clear hB6)
            exact ⟨⟨i + 1, by omega, by simp, HB6.out⟩, by simp [intOf]; omega⟩
          · obtain rfl : i = l.length := by omega
            go_wp2_with fail
            refine (all_any wr w.heap.size F b s HTq.out.1 (by omega) HA.out.mem).mono ?_
            rintro e w6 ⟨v, rfl, hR, hB6⟩
            obtain ⟨A3, c3, rfl⟩ := Kd.R_slice hR
            have HR6 := Lib.hid (Kd.R_reads' hR).2.2
            have HS6 := Lib.hid (Kd.C_below HRR.out (below_then HBQ.out HBQ.out.size hB6))
            have HT6 := Lib.hid (HTq.out.below hB6)
            clear hR hB6
            go_wp2_with (go_at_call 15; refine (sameEntries_any A2 A3 c2 c3 s.l _ HS6.out HR6.out (by omega)).mono ?_; rintro e w7 ⟨rfl, hB7⟩; have HT7 := Lib.hid (HT6.out.below hB7); clear hB7)
            go_ret
            exact ⟨rfl, HT7.out.2⟩
end Go.Proofs.YtacbebkaammcnaaDoor
