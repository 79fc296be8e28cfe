/- The walk of LinkOnce. -/
import Derived.Test.YtgkinjfinijnnaaDoorOnceP
import Derived.Deep.DeepCutAuto
set_option linter.unusedVariables false
set_option linter.unusedSimpArgs false
namespace Go.Proofs.YtgkinjfinijnnaaDoor
open Go.RowKit Go.Proofs.YtgkinjfinijnnaaDoorW.PrintWords Go.Proofs.Mine

theorem zero32 (w : World) : (zeroValue 32).run Tryd.prog w = .ok (.agg (arrB (List.replicate 41 false))) w := by kernel_rfl
theorem tinfo3 : (Tryd.prog.info? 3).map (fun i => (i.zero, i.size, i.bytes)) = some (some (.int .i64 0), 1, 8) := by kernel_rfl
set_option maxRecDepth 100000 in
set_option maxHeartbeats 4000000 in
theorem linkOnce_any (A : Option Addr) (cap : Nat) (os : List Int) (again : Bool) (w : World) (hg : Laid w) (hr : ReadsInt w .i64 A os.length os) (hc : os.length ≤ cap) :
    Calls Tryd.prog 4 #[.slice A os.length cap, .bool again] w fun e w' => e = .returned (.bool true) ∧ Below w.heap.size w w' := by
  have HR := Lib.hid hr
  have HG := Lib.hid hg
  have hmx := hr.2.1
  have hz32 := zero32
  clear hr hg
  go_enter Tryd.func4, Tryd.ntmps4
  go_wp2_with (first
    | (go_at_call 7; refine (known_any _ HG.out).mono ?_; rintro e w1 ⟨rfl, hB⟩; have HB1 := Lib.hid hB; clear hB)
    | (have t1 := T1.out; go_at_call 9; refine (new_link 2 9 _).mono ?_; rintro e w3 ⟨rfl, hw3⟩; have T2 := Lib.hid (link_new 2 9 t1.2); rw [← hw3] at T2; have T3 := Lib.hid ((t1.alloc (.map #[] 0)).alloc (.cells #[.int .i64 2, .int .i64 9, .map (some w2.heap.size), .int .i64 0] 43)); rw [← hw3] at T3; clear hw3 t1)
    | (go_at_call 9; refine (new_link 1 4 _).mono ?_; rintro e w2 ⟨rfl, hw2⟩; have T1 := Lib.hid (link_new 1 4 HB1.out); rw [← hw2] at T1; have hz1 : w1.heap.size + 1 < w2.heap.size := (by rw [hw2]; simp); clear hw2))
  have hdis : ∀ j, (j = w1.heap.size ∨ j = w1.heap.size + 1) → ¬ (j = w2.heap.size ∨ j = w2.heap.size + 1) := by omega
  have HST : RowKit.Hid (OnceA w (w1.heap.size + 1) (w2.heap.size + 1) 0 (.slice none 0 0) w3) := Lib.hid ⟨_, _, _, T3.out, rfl, rfl, T2.out, hdis, own_nil _ _ _ _, fun j hj => by cases hj⟩
  generalize w1.heap.size + 1 = ba at *
  generalize w2.heap.size + 1 = bb at *
  clear T1 T2 T3 hz1 hdis
  go_loopw [7, 8] (fun nv iv wr => ∃ k : Nat, k ≤ 40 ∧ iv = .int .i64 k ∧ OnceA w ba bb k nv wr) (fun _ iv _ => 40 - (intOf iv).toNat)
  case atStart => exact ⟨0, by omega, rfl, HST.out⟩
  case round =>
    obtain ⟨k, hk40, rfl, Fa, Fb, sa, hTa, hsent, hlife, hTb, hdis, hrow, hsep⟩ := hrel
    obtain ⟨A1, c1, rfl⟩ := own_slice hrow
    by_cases hlt : k < 40
    · have hst := stamp_in 2 hTa (by rw [hsent]; omega) (by rw [hsent]; omega)
      rw [hsent, hlife] at hst
      have HS := Lib.hid hst
      have HX := Lib.hid (And.intro hTa (And.intro hTb (And.intro hdis (And.intro hrow hsep))))
      have HE := Lib.hid (And.intro hsent hlife)
      have hlt' : (k : Int) < 40 := by omega
      clear hst hTa hTb hdis hrow hsep hsent hlife
      go_wp2_with (first
        | (go_at_call 11; refine HS.out.mono ?_; rintro e w5 ⟨rfl, F5, hT5, hF5, hK5⟩
           have h5 := OnceA.stamped HX.out.1 HX.out.2.1 HX.out.2.2.1 HX.out.2.2.2.1 HX.out.2.2.2.2 hF5 hK5
           have hs5 : ((stampL sa 2).peers 2).sent = (k : Int) + 1 := (by show (updP sa.peers 2 (stampP (sa.peers 2)) 2).sent = _; rw [updP_at]; show (sa.peers 2).sent + 1 = _; rw [HE.out.1])
           have hl5 : (stampL sa 2).life = 4 := HE.out.2
           have H5 := Lib.hid (And.intro hT5 (And.intro hs5 (And.intro hl5 h5)))
           clear hT5 hF5 hK5 h5 hs5 hl5)
        | (at_builtin; go_loud (refine print_append_num (w0 := w) (W := w5) w.heap.size rfl _ _ 29 3 .i64 8 rfl Tryd.underlying29 tinfo3 (by decide) (.slice A1 k c1) (upto k) ((k : Int) + 1) rfl rfl (by rw [upto_length]; exact H5.out.2.2.2.2.2.1) H5.out.1.2 H5.out.1.2.size (by rw [upto_length]; omega) ?_)
           intro v1 w6 hown hB hg6 hat
           have H6 := Lib.hid (OnceA.app H5.out.1 H5.out.2.1 H5.out.2.2.1 H5.out.2.2.2.1 H5.out.2.2.2.2.1 H5.out.2.2.2.2.2.1 H5.out.2.2.2.2.2.2 hown hg6 hat)
           clear hown hB hg6 hat))
      exact ⟨⟨k + 1, by omega, by simp, H6.out⟩, by simp [intOf]; omega⟩
    · obtain rfl : k = 40 := by omega
      have hb := Lib.hid (OnceB.start hTb hrow (fun j hj => (hsep j hj).2))
      clear hTa hTb hdis hrow hsep hsent hlife HST
      go_wp2_with fail
      generalize hW : wr.alloc _ = W
      have HB : RowKit.Hid (OnceB w bb wr.heap.size (.slice A1 40 c1) (link0 2 9) (List.replicate 41 false) Fb W) := Lib.hid (by rw [← hW]; exact hb.out)
      clear hW hb
      generalize wr.heap.size = n at *
      rw [show ((40 : Nat) : Int) = 40 from rfl]
      go_loopw [12] (fun iv wq => ∃ (k : Nat) (has : List Bool) (s : LSt) (F : Nat → Prop), k ≤ os.length ∧ k ≤ 80 ∧ iv = .int .i64 k ∧ OnceR s k has ∧ OnceB w bb n (.slice A1 40 c1) s has F wq) (fun iv _ => 80 - (intOf iv).toNat)
      case atStart => exact ⟨0, _, _, _, by omega, by omega, rfl, onceR0, HB.out⟩
      case round =>
        obtain ⟨k, has, s, F, hk, hk80, rfl, hA, hB⟩ := hrel
        have HA := Lib.hid hA
        have HT := Lib.hid hB
        clear hA hB
        by_cases hin : k < os.length ∧ k < 80
        · obtain ⟨hin1, hin2⟩ := hin
          obtain ⟨ad, rfl, hcell⟩ := HR.out.at_ k (by omega) (by omega)
          have hcell0 := pw_cell_below HT.out.1.2 hcell
          rw [Int.toNat_natCast] at hcell0
          generalize rd os k = x at *
          clear hcell
          obtain ⟨m, hm⟩ : ∃ m : Nat, x % 40 = (m : Int) := ⟨(x % 40).toNat, by omega⟩
          have hm40 : m < 40 := by omega
          have HM := Lib.hid hm
          clear hm
          obtain ⟨ad2, rfl, hcell2⟩ := HT.out.cell m hm40
          have hmi : (m : Int) < 40 := by omega
          have hm0 : (0 : Int) ≤ (m : Int) := by omega
          have hin2' : (k : Int) < 80 := by omega
          go_wp2_with (go_at_call 8; refine (within_any _ _ _ (by decide) (by decide)).mono ?_; rintro e W' ⟨rfl, rfl⟩; rw [HM.out])
          obtain ⟨q, hq⟩ : ∃ q : Nat, (m : Int) + 1 = (q : Int) := ⟨m + 1, by omega⟩
          rw [hq]
          have q1 : 1 ≤ q := by omega
          have q41 : q < 41 := by omega
          have hqi : (q : Int) < 41 := by omega
          have hq0 : (0 : Int) ≤ (q : Int) := by omega
          clear hq hcell0 hcell2 hmi hm0 hin2' HM
          have HT4 := Lib.hid (HT.out.other ((Keep.refl _ wr).drew))
          have hsm := HA.out.small
          have htk := take_in 1 4 (q : Int) HG.out HT4.out.1 hsm.most.1 (by have := hsm.most.2; omega) HA.out.ref0 (by have := HA.out.refk; omega) (by omega) (fun _ => hsm.keys (by omega))
          clear hsm
          have hcl := arrB_get has q (by rw [HA.out.len]; omega)
          cases hv : has.getD q false
          · obtain ⟨e1, e2⟩ := HA.out.new q1 q41 hv
            rw [hv] at hcl
            rw [e1] at htk
            have HA2 := Lib.hid e2
            have HTK := Lib.hid htk
            have HCL := Lib.hid hcl
            have p0 : wr.drew.cell? ⟨n, q, none⟩ = some (.bool false) := (blk_cell HT4.out.2.2.2.2.1 q).trans hcl
            clear e1 e2 htk hcl hv
            generalize takeL s 1 4 q = s2 at *
            go_region_law (go_simp; go_at_call 10; refine HTK.out.mono ?_; rintro e w5 ⟨rfl, F5, hT5, hF5, hK5⟩
                           have H5 := Lib.hid (HT4.out.took hT5 hF5 hK5)
                           have p1 : w5.cell? ⟨n, q, none⟩ = some (.bool false) := (blk_cell H5.out.2.2.2.2.1 q).trans HCL.out
                           have p2 := blk_frozen H5.out.2.2.2.2.1 q
                           clear hT5 hF5 hK5)
            all_goals
              go_wp2_with fail
              exact ⟨⟨k + 1, _, s2, F5, by omega, by omega, by simp, HA2.out, H5.out.set q⟩, by simp [intOf]; omega⟩
          · obtain ⟨e1, e2⟩ := HA.out.old q1 q41 hv
            rw [hv] at hcl
            rw [e1] at htk
            have HA2 := Lib.hid e2
            have HTK := Lib.hid htk
            have HCL := Lib.hid hcl
            have p0 : wr.drew.cell? ⟨n, q, none⟩ = some (.bool true) := (blk_cell HT4.out.2.2.2.2.1 q).trans hcl
            clear e1 e2 htk hcl hv
            generalize takeL s 1 4 q = s2 at *
            go_region_law (go_simp; go_at_call 10; refine HTK.out.mono ?_; rintro e w5 ⟨rfl, F5, hT5, hF5, hK5⟩
                           have H5 := Lib.hid (HT4.out.took hT5 hF5 hK5)
                           have p1 : w5.cell? ⟨n, q, none⟩ = some (.bool true) := (blk_cell H5.out.2.2.2.2.1 q).trans HCL.out
                           have p2 := blk_frozen H5.out.2.2.2.2.1 q
                           clear hT5 hF5 hK5)
            all_goals
              go_wp2_with fail
              exact ⟨⟨k + 1, _, s2, F5, by omega, by omega, by simp, HA2.out, H5.out.set q⟩, by simp [intOf]; omega⟩
        · have hf := Fifth.of HA.out hk80
          have HF5 := Lib.hid hf
          have hsm := HA.out.small
          have hm1 := hsm.most
          have hke := hsm.keys (n := 1) (by decide)
          have hre := And.intro HA.out.ref0 HA.out.refk
          have HSM := Lib.hid (And.intro hm1 (And.intro hke hre))
          have HL := Lib.hid (And.intro hk80 hmx)
          clear hf hsm hm1 hke hre
          by_cases he : k < os.length
          all_goals
            go_wp2_with (first
              | (go_at_call 9; refine (new_link 1 5 _).mono ?_; rintro e w6 ⟨rfl, hw6⟩; have C1 := Lib.hid (link_new 1 5 HT.out.1.2); rw [← hw6] at C1; have HW6 := Lib.hid hw6; clear hw6)
              | (go_at_call 11; refine (stamp_in 2 C1.out (by decide) (by decide)).mono ?_; rintro e w7 ⟨rfl, F7, _, _, hK7⟩
                 rw [show (((link0 1 5).peers 2).sent + 1 : Int) = 1 from by decide, show (link0 1 5).life = 5 from rfl]
                 rw [HW6.out] at hK7
                 have H7 := Lib.hid (HT.out.third (by rintro j (h | h) <;> omega) hK7)
                 clear hK7)
              | (go_at_call 10; refine (take_in 1 5 1 HG.out H7.out.1 HSM.out.1.1 (by have := HSM.out.1.2; omega) HSM.out.2.2.1 (by have := HSM.out.2.2.2; have := HL.out.1; omega) (by decide) (fun _ => HSM.out.2.1)).mono ?_; rintro e w8 ⟨rfl, F8, hT8, hF8, hK8⟩
                 have H8 := Lib.hid (H7.out.took hT8 hF8 hK8)
                 rw [HF5.out.1]
                 clear hT8 hF8 hK8)
              | (go_at_call 12; refine (life_in 1 H8.out.1).mono ?_; rintro e w9 ⟨rfl, F9, hT9, hF9, hK9⟩
                 have H9 := Lib.hid (H8.out.took hT9 hF9 hK9)
                 rw [HF5.out.2.life_]
                 clear hT9 hF9 hK9))
            have HZ := Lib.hid HF5.out.2
            clear HF5 HSM HA HT HB C1 HW6 H7 H8
            generalize takeL s 1 5 1 = s4 at *
            go_loopw [17] (fun iv wq => ∃ (k3 : Nat) (s3 : LSt) (F3 : Nat → Prop), k3 ≤ 40 ∧ iv = .int .i64 k3 ∧ Fifth s3 k3 ∧ OnceB w bb n (.slice A1 40 c1) s3 has F3 wq) (fun iv _ => 40 - (intOf iv).toNat)
            case atStart => exact ⟨0, _, F9, by omega, rfl, HZ.out, H9.out⟩
            case round =>
              obtain ⟨k3, s3, F3, hk3, rfl, hZ3, hB3⟩ := hrel
              have HB3 := Lib.hid hB3
              have hm3 := hZ3.most
              have hr3 := hZ3.ref0
              have hr4 := hZ3.refk
              have HZ3 := Lib.hid hZ3
              clear hB3 hZ3
              by_cases hlt3 : k3 < 40
              · obtain ⟨ad2, rfl, hcell2⟩ := HB3.out.cell k3 hlt3
                have hst := HZ3.out.stale (n := (k3 : Int) + 1) (by omega)
                have htk := take_in 1 4 ((k3 : Int) + 1) HG.out HB3.out.1 (by omega) (by omega) hr3 (by omega) (by omega) (fun h => absurd (hst.1.symm.trans h) (by decide))
                rw [hst.1] at htk
                have HTK := Lib.hid htk
                have HST := Lib.hid hst.2
                have hlt3' : (k3 : Int) < 40 := by omega
                clear hst htk hm3 hr3 hr4
                go_wp2_with (go_at_call 10; refine HTK.out.mono ?_; rintro e w5 ⟨rfl, F5, hT5, hF5, hK5⟩; have H5 := Lib.hid (HB3.out.took hT5 hF5 hK5); clear hT5 hF5 hK5)
                exact ⟨⟨k3 + 1, _, F5, by omega, by simp, HST.out, H5.out⟩, by simp [intOf]; omega⟩
              · have hag := HZ3.out.again
                have htk := take_in 1 5 1 HG.out HB3.out.1 (by omega) (by omega) hr3 (by omega) (by decide) (fun h => absurd (hag.symm.trans h) (by decide))
                rw [hag] at htk
                have HTK := Lib.hid htk
                clear htk hag hm3 hr3 hr4
                cases again
                · go_wp2
                  go_ret
                  exact ⟨rfl, HB3.out.1.2⟩
                · go_wp2_with (go_at_call 10; refine HTK.out.mono ?_; rintro e w5 ⟨rfl, F5, hT5, hF5, hK5⟩; have H5 := Lib.hid (HB3.out.took hT5 hF5 hK5); clear hT5 hF5 hK5)
                  go_ret
                  exact ⟨rfl, H5.out.1.2⟩
theorem linkOnce_row (A : Option Addr) (cap : Nat) (os : List Int) (again : Bool) (w : World) (hg : Laid w) (hr : ReadsInt w .i64 A os.length os) (hc : os.length ≤ cap) (_ : os.length * 8 ≤ 140737488351232) (_ : ∀ x ∈ os, (Lit.int .i64 x).wf = true) :
    Calls Tryd.prog 4 #[.slice A os.length cap, .bool again] w fun e w' => e = .returned (.bool true) ∧ Below w.heap.size w w' := linkOnce_any A cap os again w hg hr hc
end Go.Proofs.YtgkinjfinijnnaaDoor
