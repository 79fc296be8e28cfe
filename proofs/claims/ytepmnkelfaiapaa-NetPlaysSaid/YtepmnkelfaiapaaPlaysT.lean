/- NetPlays: behind the switch; the round. -/
import Derived.Test.YtepmnkelfaiapaaPlaysS
set_option linter.unusedVariables false
set_option linter.unusedSimpArgs false
namespace Go.Proofs.Ytepmnkelfaiapaa
open Go.RowKit Go.Proofs.YtepmnkelfaiapaaW.PrintWords Go.Proofs.Mine

def nextAt (n : Nat) : Code → Option Code
  | .seq (.block k c) y => if k = n then some y else (nextAt n c).or (nextAt n y)
  | .seq (.seq a (.block k c)) y => if k = n then some y else ((nextAt n a).or (nextAt n c)).or (nextAt n y)
  | .seq a b => (nextAt n a).or (nextAt n b)
  | .block _ c => nextAt n c
  | .cond _ a b => (nextAt n a).or (nextAt n b)
  | .loop c => nextAt n c
  | .scope c => nextAt n c
  | _ => none
def loopAt : Code → Option Code
  | .loop c => some c
  | .seq a b => (loopAt a).or (loopAt b)
  | .block _ c => loopAt c
  | .cond _ a b => (loopAt a).or (loopAt b)
  | .scope c => loopAt c
  | _ => none
noncomputable def tail2 : Code := ((Try.f5.body.bind (nextAt 2)).getD .skip)
noncomputable def tail1 : Code := ((Try.f5.body.bind (nextAt 1)).getD .skip)
noncomputable def round1 : Code := ((Try.f5.body.bind loopAt).getD .skip)
set_option maxRecDepth 1000000 in
set_option maxHeartbeats 4000000 in
theorem play_tail {w wt : World} {b k : Nat} {x0 x1 x20 x21 x22 : Value} {a' : Act} {Q : Exit → Act → World → Prop} (hk : k < 100) (hMI : PlMI w b k (k + 1) x0 x1 (.pointer (some ⟨b, 0, none⟩)) x20 x21 x22 a' wt)
    (hQ : ∀ a'' w'', PlMI w b k (k + 1) x0 x1 (.pointer (some ⟨b, 0, none⟩)) x20 x21 x22 a'' w'' → Q .normal a'' w'') : Code.wp Try.prog tail2 Q a' wt := by
  refine PlMI.elim (C := fun a w => Code.wp Try.prog tail2 Q a w) hMI ?_
  intro u2 u4 u5 u6 u7 u8 u10 u11 u12 u13 u14 u15 u16 u17 u18 u19 u23 u24 u25 u26 u27 u28 u29 u30 u31 u32 u33 u34 u35 u36 u37 u38 u39 u40 u41 u42 u43 u44 u45 u46 u47 u48 u49 u50 u51 u52 u53 u54 u55 u56 u57 u58 u59 u60 u61 u62 u63 u64 u65 u66 u67 u68 u69 u70 u71 u72 u73 u74 u75 u76 u77 u78 u79 u80 u81 u82 u83 u84 u85 u86 u87 u88 u89 u90 u91 u92 u93 u94 u95 u96 u97 u98 u99 u100 u101 u102 u103 u104 u105 u106 u107 u108 u109 u110 u111 u112 u113 u114 u115 u116 u117 u118 u119 u120 u121 u122 u123 u124 u125 u126 u127 u128 u129 u130 u131 u132 u133 u134 u135 u136 u137 u138 u139 u140 u141 u142 u143 u144 u145 u146 u147 u148 u149 u150 u151 u152 u153 u154 u155 u156 u157 u158 u159 u160 u161 u162 u163 u164 u165 u166 u167 u168 u169 u170 u171 u172 u173 u174 u175 u176 u177 u178 u179 u180 u181 u182 u183 u184 u185 u186 u187 u188 u189 u190 u191 u192 u193 u194 u195 u196 u197 u198 u199 u200 u201 u202 u203 u204 u205 u206 u207 u208 u209 u210 u211 u212 u213 u214 u215 u216 u217 u218 u219 u220 u221 u222 u223 u224 u225 u226 u227 u228 u229 u230 u231 u232 u233 u234 u235 u236 u237 u238 u239 u240 u241 u242 u243 u244 u245 u246 u247 u248 u249 u250 u251 u252 u253
  rintro ⟨made, s, F, sd, on, rfl, rfl, rfl, hl0, hm0, hmk, hsum, hSI, hsd, hP⟩
  have HP := Lib.hid hP
  have HSI := Lib.hid hSI
  obtain ⟨Al, cpl, rfl⟩ := Kd.R_slice hP.row
  obtain ⟨As, cps, rfl⟩ := own_slice hP.side
  have HQ := Lib.hid hQ
  clear hP hSI hMI hQ
  conv => arg 2; whnf
  have hll : s.l.length ≤ 101 := by omega
  have hlo : s.lost ≤ 101 := by omega
  go_wp2_with (first
    | (go_at_call 13; refine (lost_any _ w.heap.size F b _ HP.out.net.1).mono ?_; rintro e w7 ⟨rfl, rfl⟩)
    | (go_at_call 11; refine (len_any _ w.heap.size F b _ HP.out.net.1).mono ?_; rintro e w7 ⟨rfl, rfl⟩))
  refine HQ.out _ _ (PlMI.mk _ _ _ _ _ _ _ _ _ _ _ _ _ _ _ _ _ _ _ _ _ _ _ _ _ _ _ _ _ _ _ _ _ _ _ _ _ _ _ _ _ _ _ _ _ _ _ _ _ _ _ _ _ _ _ _ _ _ _ _ _ _ _ _ _ _ _ _ _ _ _ _ _ _ _ _ _ _ _ _ _ _ _ _ _ _ _ _ _ _ _ _ _ _ _ _ _ _ _ _ _ _ _ _ _ _ _ _ _ _ _ _ _ _ _ _ _ _ _ _ _ _ _ _ _ _ _ _ _ _ _ _ _ _ _ _ _ _ _ _ _ _ _ _ _ _ _ _ _ _ _ _ _ _ _ _ _ _ _ _ _ _ _ _ _ _ _ _ _ _ _ _ _ _ _ _ _ _ _ _ _ _ _ _ _ _ _ _ _ _ _ _ _ _ _ _ _ _ _ _ _ _ _ _ _ _ _ _ _ _ _ _ _ _ _ _ _ _ _ _ _ _ _ _ _ _ _ _ _ _ _ _ _ _ _ _ _ _ _ _ _ _ _ _ _ _ _ ?_)
  exact ⟨made, s, F, sd, on, rfl, rfl, rfl, hl0, hm0, hmk, hsum, HSI.out, hsd, HP.out⟩
set_option maxRecDepth 1000000 in
set_option maxHeartbeats 4000000 in
theorem play_next {w wt : World} {b k : Nat} {x0 x1 x3 x20 x21 x22 : Value} {a' : Act} {Q : Exit → Act → World → Prop} (hk : k < 100) (hMI : PlMI w b k (k + 1) x0 x1 x3 x20 x21 x22 a' wt)
    (hQ : ∀ a'' w'', PlMI w b (k + 1) (k + 1) x0 x1 x3 x20 x21 x22 a'' w'' → Q .normal a'' w'') : Code.wp Try.prog tail1 Q a' wt := by
  refine PlMI.elim (C := fun a w => Code.wp Try.prog tail1 Q a w) hMI ?_
  intro u2 u4 u5 u6 u7 u8 u10 u11 u12 u13 u14 u15 u16 u17 u18 u19 u23 u24 u25 u26 u27 u28 u29 u30 u31 u32 u33 u34 u35 u36 u37 u38 u39 u40 u41 u42 u43 u44 u45 u46 u47 u48 u49 u50 u51 u52 u53 u54 u55 u56 u57 u58 u59 u60 u61 u62 u63 u64 u65 u66 u67 u68 u69 u70 u71 u72 u73 u74 u75 u76 u77 u78 u79 u80 u81 u82 u83 u84 u85 u86 u87 u88 u89 u90 u91 u92 u93 u94 u95 u96 u97 u98 u99 u100 u101 u102 u103 u104 u105 u106 u107 u108 u109 u110 u111 u112 u113 u114 u115 u116 u117 u118 u119 u120 u121 u122 u123 u124 u125 u126 u127 u128 u129 u130 u131 u132 u133 u134 u135 u136 u137 u138 u139 u140 u141 u142 u143 u144 u145 u146 u147 u148 u149 u150 u151 u152 u153 u154 u155 u156 u157 u158 u159 u160 u161 u162 u163 u164 u165 u166 u167 u168 u169 u170 u171 u172 u173 u174 u175 u176 u177 u178 u179 u180 u181 u182 u183 u184 u185 u186 u187 u188 u189 u190 u191 u192 u193 u194 u195 u196 u197 u198 u199 u200 u201 u202 u203 u204 u205 u206 u207 u208 u209 u210 u211 u212 u213 u214 u215 u216 u217 u218 u219 u220 u221 u222 u223 u224 u225 u226 u227 u228 u229 u230 u231 u232 u233 u234 u235 u236 u237 u238 u239 u240 u241 u242 u243 u244 u245 u246 u247 u248 u249 u250 u251 u252 u253 hrel
  have HQ := Lib.hid hQ
  have HR := Lib.hid hrel
  clear hMI hQ hrel
  conv => arg 2; whnf
  go_wp2
  refine HQ.out _ _ (PlMI.mk _ _ _ _ _ _ _ _ _ _ _ _ _ _ _ _ _ _ _ _ _ _ _ _ _ _ _ _ _ _ _ _ _ _ _ _ _ _ _ _ _ _ _ _ _ _ _ _ _ _ _ _ _ _ _ _ _ _ _ _ _ _ _ _ _ _ _ _ _ _ _ _ _ _ _ _ _ _ _ _ _ _ _ _ _ _ _ _ _ _ _ _ _ _ _ _ _ _ _ _ _ _ _ _ _ _ _ _ _ _ _ _ _ _ _ _ _ _ _ _ _ _ _ _ _ _ _ _ _ _ _ _ _ _ _ _ _ _ _ _ _ _ _ _ _ _ _ _ _ _ _ _ _ _ _ _ _ _ _ _ _ _ _ _ _ _ _ _ _ _ _ _ _ _ _ _ _ _ _ _ _ _ _ _ _ _ _ _ _ _ _ _ _ _ _ _ _ _ _ _ _ _ _ _ _ _ _ _ _ _ _ _ _ _ _ _ _ _ _ _ _ _ _ _ _ _ _ _ _ _ _ _ _ _ _ _ _ _ _ _ _ _ _ _ _ _ _ ?_)
  exact HR.out
end Go.Proofs.Ytepmnkelfaiapaa
