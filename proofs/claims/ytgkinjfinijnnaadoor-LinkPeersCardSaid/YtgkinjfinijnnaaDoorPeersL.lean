/- The walk of LinkPeers. -/
import Derived.Test.YtgkinjfinijnnaaDoorPeersP
import Derived.Deep.DeepCutAuto
set_option linter.unusedVariables false
set_option linter.unusedSimpArgs false
namespace Go.Proofs.YtgkinjfinijnnaaDoor
open Go.RowKit Go.Proofs.YtgkinjfinijnnaaDoorW.PrintWords Go.Proofs.Mine

theorem zero39 (w : World) : (zeroValue 39).run Tryd.prog w = .ok (.agg (arrB (List.replicate 90 false))) w := by kernel_rfl
set_option maxRecDepth 100000 in
set_option maxHeartbeats 4000000 in
theorem linkPeers_any (A : Option Addr) (cap : Nat) (ns : List Int) (w : World) (hg : Laid w) (hr : ReadsInt w .i64 A ns.length ns) (hc : ns.length ≤ cap) (hw : ∀ x ∈ ns, (Lit.int .i64 x).wf = true) :
    Calls Tryd.prog 6 #[.slice A ns.length cap] w fun e w' => e = .returned (.bool true) ∧ Below w.heap.size w w' := by
  have HR := Lib.hid hr
  have HG := Lib.hid hg
  have hmx := hr.2.1
  have hz39 := zero39
  have HW := Lib.hid hw
  clear hr hg hw
  go_enter Tryd.func6, Tryd.ntmps6
  go_wp2_with (first
    | (go_at_call 7; refine (known_any _ HG.out).mono ?_; rintro e w1 ⟨rfl, hB⟩; have HB1 := Lib.hid hB; clear hB)
    | (go_at_call 9; refine (new_link 0 1 _).mono ?_; rintro e w2 ⟨rfl, hw2⟩; have T2 := Lib.hid (link_new 0 1 HB1.out); rw [← hw2] at T2; have hz2 : w1.heap.size + 1 < w2.heap.size := (by rw [hw2]; simp); clear hw2))
  generalize hb : w1.heap.size + 1 = b at *
  generalize hW : w2.alloc _ = W
  have hh0 : W.heap[w2.heap.size]? = some (.cells (arrB (List.replicate 90 false)) 39 (0, 0)) := by rw [← hW]; exact heap_alloc_new w2 _
  obtain ⟨F0, T3, HNF⟩ : ∃ F, RowKit.Hid (LinkIn w b (link0 0 1) W F) ∧ RowKit.Hid (¬ F w2.heap.size) := ⟨_, by rw [← hW]; exact T2.out.alloc _, fun h => by have h : w2.heap.size = w1.heap.size ∨ w2.heap.size = b := h; omega⟩
  generalize hn : w2.heap.size = n at *
  have hnw : w.heap.size ≤ n := by have := HB1.out.size; omega
  have HH0 := Lib.hid hh0
  clear hh0 hW T2
  go_loopw [4, 6] (fun rw_ iv wr => ∃ (k : Nat) (has : List Bool) (s : LSt) (F : Nat → Prop) (rv : Int), k ≤ ns.length ∧ k ≤ 80 ∧ iv = .int .i64 k ∧ rw_ = .int .i64 rv ∧ PeersR s k has rv ∧ LinkIn w b s wr F ∧ ¬ F n ∧ wr.heap[n]? = some (.cells (arrB has) 39 (0, 0))) (fun _ iv _ => 80 - (intOf iv).toNat)
  case atStart => exact ⟨0, List.replicate 90 false, _, F0, 0, by omega, by omega, rfl, rfl, peersR0, T3.out, HNF.out, HH0.out⟩
  case round =>
    obtain ⟨k, has, s, F, rv, hk, hk80, rfl, rfl, hA, hT, hNF, hH⟩ := hrel
    have HA := Lib.hid hA
    have HT := Lib.hid hT
    have HNF1 := Lib.hid hNF
    have HH := Lib.hid hH
    have hr0 := hA.ref0
    have hrk := hA.refk
    clear hA hT hNF hH
    by_cases hin : k < ns.length ∧ k < 80
    · obtain ⟨hin1, hin2⟩ := hin
      obtain ⟨ad, rfl, hcell⟩ := HR.out.at_ k (by omega) (by omega)
      have hxw := HW.out (rd ns k) (by unfold rd; simp [hin1])
      have hcell := pw_cell_below HT.out.2 hcell
      rw [Int.toNat_natCast] at hcell
      generalize rd ns k = x at *
      have q1 : ∀ nq, (wr.drewN nq).cell? (ad.add k) = some (.int .i64 x) := fun _ => hcell
      have hx0 : -9223372036854775808 ≤ x ∧ x < 9223372036854775808 := by
        have e1 : IntKind.i64.min = -9223372036854775808 := by decide
        have e2 : IntKind.i64.max = 9223372036854775807 := by decide
        simp [Lit.wf, e1, e2] at hxw
        omega
      have hin2' : (k : Int) < 80 := by omega
      have hin1' : (k : Int) < (ns.length : Int) := by omega
      have hk0 : (0 : Int) ≤ (k : Int) := by omega
      have hy0 : 0 ≤ x % 3 := by omega
      have hy1 : x % 3 < 3 := by omega
      clear hcell hxw
      go_wp2_with fail
      go_quiet (exact Calls.quiet_of_same (within_quiet _ _ _ (by decide) (by decide)))
      go_wp2_with fail
      obtain ⟨p, hp⟩ : ∃ p : Nat, x % 3 = (p : Int) := ⟨(x % 3).toNat, by omega⟩
      obtain ⟨q, hq⟩ : ∃ q : Nat, 1 + x.tdiv 3 % 29 = (q : Int) := ⟨(1 + x.tdiv 3 % 29).toNat, by omega⟩
      have p3 : p < 3 := by omega
      have q1' : 1 ≤ q := by omega
      have q30 : q < 30 := by omega
      rw [hp, hq]
      have T4 := Lib.hid (HT.out.other ((Keep.refl _ wr).drewN nq))
      have H4 : RowKit.Hid ((wr.drewN nq).heap[n]? = some (.cells (arrB has) 39 (0, 0))) := HH.out
      clear hp hq q1 hx0 hy0 hy1 hin1' hin2' hk0 HT HH
      generalize wr.drewN nq = W4 at *
      have hpi : (p : Int) < 3 := by omega
      have hp0 : (0 : Int) ≤ (p : Int) := by omega
      have hqi : (q : Int) < 30 := by omega
      have hq0 : (0 : Int) ≤ (q : Int) := by omega
      have hsm := HA.out.small p p3
      have htk := take_in (p : Int) 7 (q : Int) HG.out T4.out hsm.most.1 (by have := hsm.most.2; omega) (by rw [HA.out.ref]; exact hr0) (by rw [HA.out.ref]; omega) (by omega) (fun _ => hsm.keys (by omega))
      clear hsm
      have hlen := HA.out.len
      have hcl := arrB_get has (p * 30 + q) (by rw [hlen]; omega)
      cases hv : has.getD (p * 30 + q) false
      · obtain ⟨e1, e2, e3⟩ := HA.out.new p3 q1' q30 hv
        rw [hv] at hcl
        rw [e1] at htk
        have HA2 := Lib.hid e2
        have HLI := Lib.hid e3
        have hrf : (takeL s p 7 q).refused = rv := e2.ref
        have HRF := Lib.hid hrf
        clear e1 e2 e3 hrf
        generalize takeL s p 7 q = s2 at *
        have HCL := Lib.hid hcl
        clear hcl hv
        refine htk.mono ?_
        rintro e w5 ⟨rfl, F5, hT5, hF5, hK5⟩
        have hH5 := hK5.blk H4.out HNF1.out
        have hNF5 : ¬ F5 n := fun hF => by
          rcases hF5 n hF with h | h
          · exact HNF1.out h
          · have := blk_lt H4.out; omega
        have hf5 := blk_frozen hH5 (p * 30 + q)
        have hc5 := (blk_cell hH5 (p * 30 + q)).trans HCL.out
        have hset := blk_set hH5 (p * 30 + q) (.bool true)
        rw [arrB_set] at hset
        have hT6 := hT5.keep (G := fun k => k = n) ((Keep.refl _ w5).setCell ⟨n, p * 30 + q, none⟩ (.bool true) (.inl rfl)) (fun k hk => by subst hk; exact ⟨hnw, hNF5⟩)
        have hrf2 := refused_any _ w.heap.size F5 b s2 hT6.1
        rw [HRF.out] at hrf2
        have hlf2 := life_in (p : Int) hT6
        rw [HLI.out] at hlf2
        have HSET := Lib.hid hset
        have HR6 := Lib.hid hrf2
        have HL6 := Lib.hid hlf2
        have HNF5 := Lib.hid hNF5
        have HLT := Lib.hid (blk_lt hset)
        clear htk hT5 hF5 hK5 hH5 hNF5 hset hT6 hrf2 hlf2
        go_wp2_with (first
          | (go_at_call 13; refine HR6.out.mono ?_; rintro e w6 ⟨rfl, rfl⟩)
          | (go_at_call 12; refine HL6.out.mono ?_; rintro e w7 ⟨rfl, F7, hT7, hF7, hK7⟩
             have HH7 := Lib.hid (hK7.blk HSET.out HNF5.out)
             have HNF7 : RowKit.Hid (¬ F7 n) := (fun hF => by
               rcases hF7 n hF with h | h
               · exact HNF5.out h
               · have := HLT.out; omega)
             have HT7 := Lib.hid hT7
             clear hT7 hF7 hK7))
        exact ⟨⟨k + 1, _, s2, F7, rv, by omega, by omega, by simp, rfl, HA2.out, HT7.out, HNF7.out, HH7.out⟩, by simp [intOf]; omega⟩
      · obtain ⟨e1, e2, e3⟩ := HA.out.old p3 q1' q30 hv
        rw [hv] at hcl
        rw [e1] at htk
        have HA2 := Lib.hid e2
        have HLI := Lib.hid e3
        have hrf : (takeL s p 7 q).refused = rv + 1 := e2.ref
        have HRF := Lib.hid hrf
        clear e1 e2 e3 hrf
        generalize takeL s p 7 q = s2 at *
        have HCL := Lib.hid hcl
        clear hcl hv
        refine htk.mono ?_
        rintro e w5 ⟨rfl, F5, hT5, hF5, hK5⟩
        have hH5 := hK5.blk H4.out HNF1.out
        have hNF5 : ¬ F5 n := fun hF => by
          rcases hF5 n hF with h | h
          · exact HNF1.out h
          · have := blk_lt H4.out; omega
        have hf5 := blk_frozen hH5 (p * 30 + q)
        have hc5 := (blk_cell hH5 (p * 30 + q)).trans HCL.out
        have hset := blk_set hH5 (p * 30 + q) (.bool true)
        rw [arrB_set] at hset
        have hT6 := hT5.keep (G := fun k => k = n) ((Keep.refl _ w5).setCell ⟨n, p * 30 + q, none⟩ (.bool true) (.inl rfl)) (fun k hk => by subst hk; exact ⟨hnw, hNF5⟩)
        have hrf2 := refused_any _ w.heap.size F5 b s2 hT6.1
        rw [HRF.out] at hrf2
        have hlf2 := life_in (p : Int) hT6
        rw [HLI.out] at hlf2
        have HSET := Lib.hid hset
        have HR6 := Lib.hid hrf2
        have HL6 := Lib.hid hlf2
        have HNF5 := Lib.hid hNF5
        have HLT := Lib.hid (blk_lt hset)
        clear htk hT5 hF5 hK5 hH5 hNF5 hset hT6 hrf2 hlf2
        go_wp2_with (first
          | (go_at_call 13; refine HR6.out.mono ?_; rintro e w6 ⟨rfl, rfl⟩)
          | (go_at_call 12; refine HL6.out.mono ?_; rintro e w7 ⟨rfl, F7, hT7, hF7, hK7⟩
             have HH7 := Lib.hid (hK7.blk HSET.out HNF5.out)
             have HNF7 : RowKit.Hid (¬ F7 n) := (fun hF => by
               rcases hF7 n hF with h | h
               · exact HNF5.out h
               · have := HLT.out; omega)
             have HT7 := Lib.hid hT7
             clear hT7 hF7 hK7))
        exact ⟨⟨k + 1, _, s2, F7, rv + 1, by omega, by omega, by simp, rfl, HA2.out, HT7.out, HNF7.out, HH7.out⟩, by simp [intOf]; omega⟩
    · have HL := Lib.hid hmx
      have hlf := life_in 5 HT.out
      rw [HA.out.far] at hlf
      have HLF := Lib.hid hlf
      clear hlf
      by_cases he : k < ns.length
      all_goals
        go_wp2_with (go_at_call 12; refine HLF.out.mono ?_; rintro e w5 ⟨rfl, F5, hT5, _, _⟩; have HT5 := Lib.hid hT5; clear hT5; rw [show pr0.life = 0 from rfl])
        go_ret
        exact ⟨rfl, HT5.out.2⟩
theorem linkPeers_row (A : Option Addr) (cap : Nat) (ns : List Int) (w : World) (hg : Laid w) (hr : ReadsInt w .i64 A ns.length ns) (hc : ns.length ≤ cap) (_ : ns.length * 8 ≤ 140737488351232) (hw : ∀ x ∈ ns, (Lit.int .i64 x).wf = true) :
    Calls Tryd.prog 6 #[.slice A ns.length cap] w fun e w' => e = .returned (.bool true) ∧ Below w.heap.size w w' := linkPeers_any A cap ns w hg hr hc hw
end Go.Proofs.YtgkinjfinijnnaaDoor
