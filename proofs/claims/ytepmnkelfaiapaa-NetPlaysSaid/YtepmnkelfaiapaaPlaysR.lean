/- NetPlays' round. -/
import Derived.Test.YtepmnkelfaiapaaPlaysT
import Derived.Deep.CutBlock
set_option linter.unusedVariables false
set_option linter.unusedSimpArgs false
namespace Go.Proofs.Ytepmnkelfaiapaa
open Go.RowKit Go.Proofs.YtepmnkelfaiapaaW.PrintWords Go.Proofs.Mine

/-- The loop's invariant. -/
def PlLI (w : World) (b L : Nat) (x0 x1 x3 x20 x21 x22 : Value) (a' : Act) (w' : World) : Prop := ∃ k : Nat, k ≤ L ∧ k ≤ 100 ∧ PlMI w b k k x0 x1 x3 x20 x21 x22 a' w'
def plMu (a : Act) (_ : World) : Nat := 100 - (intOf (a.tmps.getD 9 undef)).toNat
set_option maxRecDepth 1000000 in
theorem plMu_at {w w' : World} {b k j : Nat} {x0 x1 x3 x20 x21 x22 : Value} {a' : Act} (h : PlMI w b k j x0 x1 x3 x20 x21 x22 a' w') : plMu a' w' = 100 - k := by
  refine PlMI.elim (C := fun a w => plMu a w = 100 - k) h ?_
  intro u2 u4 u5 u6 u7 u8 u10 u11 u12 u13 u14 u15 u16 u17 u18 u19 u23 u24 u25 u26 u27 u28 u29 u30 u31 u32 u33 u34 u35 u36 u37 u38 u39 u40 u41 u42 u43 u44 u45 u46 u47 u48 u49 u50 u51 u52 u53 u54 u55 u56 u57 u58 u59 u60 u61 u62 u63 u64 u65 u66 u67 u68 u69 u70 u71 u72 u73 u74 u75 u76 u77 u78 u79 u80 u81 u82 u83 u84 u85 u86 u87 u88 u89 u90 u91 u92 u93 u94 u95 u96 u97 u98 u99 u100 u101 u102 u103 u104 u105 u106 u107 u108 u109 u110 u111 u112 u113 u114 u115 u116 u117 u118 u119 u120 u121 u122 u123 u124 u125 u126 u127 u128 u129 u130 u131 u132 u133 u134 u135 u136 u137 u138 u139 u140 u141 u142 u143 u144 u145 u146 u147 u148 u149 u150 u151 u152 u153 u154 u155 u156 u157 u158 u159 u160 u161 u162 u163 u164 u165 u166 u167 u168 u169 u170 u171 u172 u173 u174 u175 u176 u177 u178 u179 u180 u181 u182 u183 u184 u185 u186 u187 u188 u189 u190 u191 u192 u193 u194 u195 u196 u197 u198 u199 u200 u201 u202 u203 u204 u205 u206 u207 u208 u209 u210 u211 u212 u213 u214 u215 u216 u217 u218 u219 u220 u221 u222 u223 u224 u225 u226 u227 u228 u229 u230 u231 u232 u233 u234 u235 u236 u237 u238 u239 u240 u241 u242 u243 u244 u245 u246 u247 u248 u249 u250 u251 u252 u253 _
  rfl
set_option maxRecDepth 1000000 in
set_option maxHeartbeats 8000000 in
theorem play_round (w wr : World) (b k : Nat) (x1 x20 x21 x22 : Value) (a' : Act) (A : Option Addr) (cap : Nat) (cl : List Cl) {Q0 : Exit → Act → World → Prop} (hr : callK.C w A cl.length cl)
    (hk : k ≤ cl.length) (hk100 : k ≤ 100) (hMI : PlMI w b k k (.slice A cl.length cap) x1 (.pointer (some ⟨b, 0, none⟩)) x20 x21 x22 a' wr)
    (hQ : ∀ a'' w'', PlLI w b cl.length (.slice A cl.length cap) x1 (.pointer (some ⟨b, 0, none⟩)) x20 x21 x22 a'' w'' → Q0 (.exit 0) a'' w'') :
    Code.wp Try.prog round1 (Exit.then (fun a'' w'' => PlLI w b cl.length (.slice A cl.length cap) x1 (.pointer (some ⟨b, 0, none⟩)) x20 x21 x22 a'' w'' ∧ plMu a'' w'' < plMu a' wr) Q0) a' wr := by
  have hmu := plMu_at hMI
  rw [hmu]
  clear hmu
  have HR := Lib.hid hr
  have hmx : cl.length ≤ 9223372036854775807 := hr.2.1
  have HQ := Lib.hid hQ
  clear hr hQ
  refine PlMI.elim (C := fun a w0 => Code.wp Try.prog round1 (Exit.then (fun a'' w'' => PlLI w b cl.length (.slice A cl.length cap) x1 (.pointer (some ⟨b, 0, none⟩)) x20 x21 x22 a'' w'' ∧ plMu a'' w'' < 100 - k) Q0) a w0) hMI ?_
  intro u2 u4 u5 u6 u7 u8 u10 u11 u12 u13 u14 u15 u16 u17 u18 u19 u23 u24 u25 u26 u27 u28 u29 u30 u31 u32 u33 u34 u35 u36 u37 u38 u39 u40 u41 u42 u43 u44 u45 u46 u47 u48 u49 u50 u51 u52 u53 u54 u55 u56 u57 u58 u59 u60 u61 u62 u63 u64 u65 u66 u67 u68 u69 u70 u71 u72 u73 u74 u75 u76 u77 u78 u79 u80 u81 u82 u83 u84 u85 u86 u87 u88 u89 u90 u91 u92 u93 u94 u95 u96 u97 u98 u99 u100 u101 u102 u103 u104 u105 u106 u107 u108 u109 u110 u111 u112 u113 u114 u115 u116 u117 u118 u119 u120 u121 u122 u123 u124 u125 u126 u127 u128 u129 u130 u131 u132 u133 u134 u135 u136 u137 u138 u139 u140 u141 u142 u143 u144 u145 u146 u147 u148 u149 u150 u151 u152 u153 u154 u155 u156 u157 u158 u159 u160 u161 u162 u163 u164 u165 u166 u167 u168 u169 u170 u171 u172 u173 u174 u175 u176 u177 u178 u179 u180 u181 u182 u183 u184 u185 u186 u187 u188 u189 u190 u191 u192 u193 u194 u195 u196 u197 u198 u199 u200 u201 u202 u203 u204 u205 u206 u207 u208 u209 u210 u211 u212 u213 u214 u215 u216 u217 u218 u219 u220 u221 u222 u223 u224 u225 u226 u227 u228 u229 u230 u231 u232 u233 u234 u235 u236 u237 u238 u239 u240 u241 u242 u243 u244 u245 u246 u247 u248 u249 u250 u251 u252 u253
  rintro ⟨made, s, F, sd, on, rfl, rfl, rfl, hl0, hm0, hmk, hsum, hSI, hsd, hP⟩
  have HP := Lib.hid hP
  have HSI := Lib.hid hSI
  obtain ⟨Al, cpl, rfl⟩ := Kd.R_slice hP.row
  obtain ⟨As, cps, rfl⟩ := own_slice hP.side
  clear hP hSI hMI
  have HEND : RowKit.Hid (∀ a'' w'', PlMI w b (k + 1) (k + 1) (.slice A cl.length cap) x1 (.pointer (some ⟨b, 0, none⟩)) x20 x21 x22 a'' w'' → k < cl.length → k < 100 → PlLI w b cl.length (.slice A cl.length cap) x1 (.pointer (some ⟨b, 0, none⟩)) x20 x21 x22 a'' w'' ∧ plMu a'' w'' < 100 - k) := fun a'' w'' h h1 h2 => ⟨⟨k + 1, by omega, by omega, h⟩, by rw [plMu_at h]; omega⟩
  conv => arg 2; whnf
  by_cases hin : k < cl.length ∧ k < 100
  · obtain ⟨hin1, hin2⟩ := hin
    obtain ⟨ad, cs, hAd, hcl, hK, hcell⟩ := Kd.C_get HR.out ⟨0, 0, 0, 0, []⟩ (k : Int) (by omega) (by omega)
    rw [Int.toNat_natCast] at hK hcell
    subst hAd
    generalize cl.getD k ⟨0, 0, 0, 0, []⟩ = c at *
    obtain ⟨A', cap', rfl, hside⟩ := hK
    generalize hea : ad.add (k * 5) = ea
    have q0 : wr.cell? ea = some (.int .i64 c.kd) := by rw [← hea]; have h0 : wr.cell? (ad.add (k * 5)) = some (.int .i64 c.kd) := pw_cell_below HP.out.net.2 (hcell 0 _ rfl); exact h0
    have q : ∀ j u, [Value.int .i64 c.kd, .int .i64 c.num, .int .i64 c.fr, .int .i64 c.dst, .slice A' c.side.length cap'][j]? = some u → wr.cell? (ea.add j) = some u := by
      intro j u hj
      rw [← hea, ← addAdd]
      exact pw_cell_below HP.out.net.2 (hcell j u hj)
    have q1 : wr.cell? ⟨ea.block, ea.off + 1, none⟩ = some (.int .i64 c.num) := by simpa [Addr.add] using q 1 _ rfl
    have q2 : wr.cell? ⟨ea.block, ea.off + 2, none⟩ = some (.int .i64 c.fr) := by simpa [Addr.add] using q 2 _ rfl
    have q3 : wr.cell? ⟨ea.block, ea.off + 3, none⟩ = some (.int .i64 c.dst) := by simpa [Addr.add] using q 3 _ rfl
    have q4 : wr.cell? ⟨ea.block, ea.off + 4, none⟩ = some (.slice A' c.side.length cap') := by simpa [Addr.add] using q 4 _ rfl
    have HS := Lib.hid hside
    clear q hcell hcl hside
    by_cases hlong : 20 < c.side.length
    · go_wp2_with fail
      refine HEND.out _ _ (PlMI.mk _ _ _ _ _ _ _ _ _ _ _ _ _ _ _ _ _ _ _ _ _ _ _ _ _ _ _ _ _ _ _ _ _ _ _ _ _ _ _ _ _ _ _ _ _ _ _ _ _ _ _ _ _ _ _ _ _ _ _ _ _ _ _ _ _ _ _ _ _ _ _ _ _ _ _ _ _ _ _ _ _ _ _ _ _ _ _ _ _ _ _ _ _ _ _ _ _ _ _ _ _ _ _ _ _ _ _ _ _ _ _ _ _ _ _ _ _ _ _ _ _ _ _ _ _ _ _ _ _ _ _ _ _ _ _ _ _ _ _ _ _ _ _ _ _ _ _ _ _ _ _ _ _ _ _ _ _ _ _ _ _ _ _ _ _ _ _ _ _ _ _ _ _ _ _ _ _ _ _ _ _ _ _ _ _ _ _ _ _ _ _ _ _ _ _ _ _ _ _ _ _ _ _ _ _ _ _ _ _ _ _ _ _ _ _ _ _ _ _ _ _ _ _ _ _ _ _ _ _ _ _ _ _ _ _ _ _ _ _ _ _ _ _ _ _ _ _ ?_) hin1 hin2
      exact ⟨made, s, F, sd, on, rfl, rfl, rfl, hl0, hm0, by omega, by omega, HSI.out, hsd, HP.out.alloc _⟩
    · have hshort : c.side.length ≤ 20 := by omega
      have HNF : RowKit.Hid (¬ F wr.heap.size) := fun hF => by have := HP.out.lt hF; omega
      go_upto_if 43 with fail
      generalize hn : wr.heap.size = n at *
      generalize hW : wr.alloc _ = W at *
      have HBX : RowKit.Hid (W.heap[n]? = some (.cells #[.int .i64 c.kd, .int .i64 c.num, .int .i64 c.fr, .int .i64 c.dst, .slice A' c.side.length cap'] 46 (0, 0))) := by rw [← hW, ← hn]; exact heap_alloc_new wr _
      have HP1 : RowKit.Hid (PlayIn w b s W F (.slice Al s.l.length cpl) s.l (.slice As sd.length cps) sd) := by rw [← hW]; exact HP.out.alloc _
      have p0 := blk_cell HBX.out 0
      have p1 := blk_cell HBX.out 1
      have hll : s.l.length ≤ 100 := by omega
      have hlo : s.lost ≤ 100 := by omega
      clear hW hn q0 q1 q2 q3 q4
      by_cases h0 : s.l.length = 0
      · have H0 := Lib.hid (atK_nil (n := c.num) h0)
        have h00 : ¬ 0 < s.l.length := by omega
        clear h0
        go_upto_block 2 with (go_at_call 8; refine (within_any c.kd 6 _ (by decide) (by decide)).mono ?_; rintro e W' ⟨rfl, rfl⟩)
        refine wp_meets 1 _ (play_switch _ _ _ _ _ _ _ _ _ _ _ _ _ _ _ _ _ _ _ _ _ _ _ _ _ _ _ _ _ _ _ _ _ _ _ _ _ _ _ _ _ _ _ _ _ _ _ _ _ _ _ _ _ _ _ _ _ _ _ _ _ _ _ _ _ _ _ _ _ _ _ _ _ _ _ _ _ _ _ _ _ _ _ _ _ _ _ _ _ _ _ _ _ _ _ _ _ _ _ _ _ _ _ _ _ _ _ _ _ _ _ _ _ _ _ _ _ _ _ _ _ _ _ _ _ _ _ _ _ _ _ _ _ _ _ _ _ _ _ _ _ _ _ _ _ _ _ _ _ _ _ _ _ _ _ _ _ _ _ _ _ _ _ _ _ _ _ _ _ _ _ _ _ _ _ _ _ _ _ _ _ _ _ _ _ _ _ _ _ _ _ _ _ _ _ _ _ _ _ _ _ _ _ _ _ _ _ _ _ _ _ _ _ _ _ _ _ _ _ _ _ _ _ _ _ _ _ _ _ _ _ _ _ _ _ _ _ _ _ _ _ _ _ _ w _ b k n made s F sd on Al As cpl cps c A' cap' hin2 hl0 hm0 hmk hsum HSI hsd HP1 HBX HS HNF hshort (0) (H0.out.symm)) ?_ ?_
        · intro a2 w2 hMI
          go_step
          refine play_tail hin2 hMI ?_
          intro a3 w3 h3
          go_step
          go_step
          refine play_next hin2 h3 ?_
          intro a4 w4 h4
          exact HEND.out _ _ h4 hin1 hin2
        · intro a3 w3 h3
          go_step
          go_step
          refine play_next hin2 h3 ?_
          intro a4 w4 h4
          exact HEND.out _ _ h4 hin1 hin2
      · have H0 := Lib.hid (atK_pos (n := c.num) h0)
        go_upto_block 2 with (first
          | (go_at_call 8; (with_reducible refine (within_any c.num s.l.length _ (by omega) (by omega)).mono ?_); rintro e W' ⟨rfl, rfl⟩)
          | (go_at_call 8; (with_reducible refine (within_any c.kd 6 _ (by decide) (by decide)).mono ?_); rintro e W' ⟨rfl, rfl⟩))
        refine wp_meets 1 _ (play_switch _ _ _ _ _ _ _ _ _ _ _ _ _ _ _ _ _ _ _ _ _ _ _ _ _ _ _ _ _ _ _ _ _ _ _ _ _ _ _ _ _ _ _ _ _ _ _ _ _ _ _ _ _ _ _ _ _ _ _ _ _ _ _ _ _ _ _ _ _ _ _ _ _ _ _ _ _ _ _ _ _ _ _ _ _ _ _ _ _ _ _ _ _ _ _ _ _ _ _ _ _ _ _ _ _ _ _ _ _ _ _ _ _ _ _ _ _ _ _ _ _ _ _ _ _ _ _ _ _ _ _ _ _ _ _ _ _ _ _ _ _ _ _ _ _ _ _ _ _ _ _ _ _ _ _ _ _ _ _ _ _ _ _ _ _ _ _ _ _ _ _ _ _ _ _ _ _ _ _ _ _ _ _ _ _ _ _ _ _ _ _ _ _ _ _ _ _ _ _ _ _ _ _ _ _ _ _ _ _ _ _ _ _ _ _ _ _ _ _ _ _ _ _ _ _ _ _ _ _ _ _ _ _ _ _ _ _ _ _ _ _ _ _ _ w _ b k n made s F sd on Al As cpl cps c A' cap' hin2 hl0 hm0 hmk hsum HSI hsd HP1 HBX HS HNF hshort (c.num % (s.l.length : Int)) (H0.out.symm)) ?_ ?_
        · intro a2 w2 hMI
          go_step
          refine play_tail hin2 hMI ?_
          intro a3 w3 h3
          go_step
          go_step
          refine play_next hin2 h3 ?_
          intro a4 w4 h4
          exact HEND.out _ _ h4 hin1 hin2
        · intro a3 w3 h3
          go_step
          go_step
          refine play_next hin2 h3 ?_
          intro a4 w4 h4
          exact HEND.out _ _ h4 hin1 hin2
  · by_cases he : k < cl.length
    all_goals
      go_wp2
      refine HQ.out _ _ ⟨k, hk, hk100, PlMI.mk _ _ _ _ _ _ _ _ _ _ _ _ _ _ _ _ _ _ _ _ _ _ _ _ _ _ _ _ _ _ _ _ _ _ _ _ _ _ _ _ _ _ _ _ _ _ _ _ _ _ _ _ _ _ _ _ _ _ _ _ _ _ _ _ _ _ _ _ _ _ _ _ _ _ _ _ _ _ _ _ _ _ _ _ _ _ _ _ _ _ _ _ _ _ _ _ _ _ _ _ _ _ _ _ _ _ _ _ _ _ _ _ _ _ _ _ _ _ _ _ _ _ _ _ _ _ _ _ _ _ _ _ _ _ _ _ _ _ _ _ _ _ _ _ _ _ _ _ _ _ _ _ _ _ _ _ _ _ _ _ _ _ _ _ _ _ _ _ _ _ _ _ _ _ _ _ _ _ _ _ _ _ _ _ _ _ _ _ _ _ _ _ _ _ _ _ _ _ _ _ _ _ _ _ _ _ _ _ _ _ _ _ _ _ _ _ _ _ _ _ _ _ _ _ _ _ _ _ _ _ _ _ _ _ _ _ _ _ _ _ _ _ _ _ _ _ _ ?_⟩
      exact ⟨made, s, F, sd, on, rfl, rfl, rfl, hl0, hm0, hmk, hsum, HSI.out, hsd, HP.out⟩
end Go.Proofs.Ytepmnkelfaiapaa
