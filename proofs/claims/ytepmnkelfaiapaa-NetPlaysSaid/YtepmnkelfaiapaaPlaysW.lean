/- The walk of NetPlays. -/
import Derived.Test.YtepmnkelfaiapaaPlaysR
set_option linter.unusedVariables false
set_option linter.unusedSimpArgs false
namespace Go.Proofs.Ytepmnkelfaiapaa
open Go.RowKit Go.Proofs.YtepmnkelfaiapaaW.PrintWords Go.Proofs.Mine

set_option maxRecDepth 1000000 in
set_option maxHeartbeats 4000000 in
theorem netPlays_any (A : Option Addr) (cap : Nat) (cl : List Cl) (w : World) (hr : callK.C w A cl.length cl) (hc : cl.length ≤ cap) :
    Calls Try.prog 5 #[.slice A cl.length cap] w fun e w' => e = .returned (.bool true) ∧ Below w.heap.size w w' := by
  have HR := Lib.hid hr
  clear hr
  go_enter Try.func5, Try.ntmps5
  go_wp2_with (first
    | (go_at_call 7; refine (known_any _).mono ?_; rintro e w1 ⟨rfl, hB⟩; have HB1 := Lib.hid hB; clear hB)
    | (go_at_call 9; refine (new_any _).mono ?_; rintro e w3 ⟨rfl, hw3⟩
       have N3 := Lib.hid (NetIn.new HB1.out); rw [← hw3] at N3; have hz3 := HB1.out.size; have hz4 : w1.heap.size < w3.heap.size := (by rw [hw3]; simp); clear hw3))
  generalize hb : w1.heap.size = b at *
  refine wp_loop (PlLI w b cl.length (.slice A cl.length cap) undef (.pointer (some ⟨b, 0, none⟩)) (.bool true) (.bool false) (.pointer (some ⟨b, 0, none⟩))) plMu ?_ ?_
  · refine ⟨0, by omega, by omega, PlMI.mk _ _ _ _ _ _ _ _ _ _ _ _ _ _ _ _ _ _ _ _ _ _ _ _ _ _ _ _ _ _ _ _ _ _ _ _ _ _ _ _ _ _ _ _ _ _ _ _ _ _ _ _ _ _ _ _ _ _ _ _ _ _ _ _ _ _ _ _ _ _ _ _ _ _ _ _ _ _ _ _ _ _ _ _ _ _ _ _ _ _ _ _ _ _ _ _ _ _ _ _ _ _ _ _ _ _ _ _ _ _ _ _ _ _ _ _ _ _ _ _ _ _ _ _ _ _ _ _ _ _ _ _ _ _ _ _ _ _ _ _ _ _ _ _ _ _ _ _ _ _ _ _ _ _ _ _ _ _ _ _ _ _ _ _ _ _ _ _ _ _ _ _ _ _ _ _ _ _ _ _ _ _ _ _ _ _ _ _ _ _ _ _ _ _ _ _ _ _ _ _ _ _ _ _ _ _ _ _ _ _ _ _ _ _ _ _ _ _ _ _ _ _ _ _ _ _ _ _ _ _ _ _ _ _ _ _ _ _ _ _ _ _ _ _ _ _ _ ?_⟩
    exact ⟨0, net0, _, [], false, rfl, rfl, rfl, by decide, by decide, by decide, by decide, fun _ _ => rfl, by decide, N3.out, Kd.R_nil _ _ _ _ _, own_nil _ _ _ _, fun k hk => by simp [Value.ownBlock] at hk⟩
  · rintro a' wr ⟨k, hk, hk100, hMI⟩
    refine play_round w wr b k _ _ _ _ a' A cap cl HR.out hk hk100 hMI ?_
    rintro a2 w2 ⟨k2, _, _, hMI2⟩
    go_step
    go_step
    refine PlMI.elim hMI2 ?_
    intro u2 u4 u5 u6 u7 u8 u10 u11 u12 u13 u14 u15 u16 u17 u18 u19 u23 u24 u25 u26 u27 u28 u29 u30 u31 u32 u33 u34 u35 u36 u37 u38 u39 u40 u41 u42 u43 u44 u45 u46 u47 u48 u49 u50 u51 u52 u53 u54 u55 u56 u57 u58 u59 u60 u61 u62 u63 u64 u65 u66 u67 u68 u69 u70 u71 u72 u73 u74 u75 u76 u77 u78 u79 u80 u81 u82 u83 u84 u85 u86 u87 u88 u89 u90 u91 u92 u93 u94 u95 u96 u97 u98 u99 u100 u101 u102 u103 u104 u105 u106 u107 u108 u109 u110 u111 u112 u113 u114 u115 u116 u117 u118 u119 u120 u121 u122 u123 u124 u125 u126 u127 u128 u129 u130 u131 u132 u133 u134 u135 u136 u137 u138 u139 u140 u141 u142 u143 u144 u145 u146 u147 u148 u149 u150 u151 u152 u153 u154 u155 u156 u157 u158 u159 u160 u161 u162 u163 u164 u165 u166 u167 u168 u169 u170 u171 u172 u173 u174 u175 u176 u177 u178 u179 u180 u181 u182 u183 u184 u185 u186 u187 u188 u189 u190 u191 u192 u193 u194 u195 u196 u197 u198 u199 u200 u201 u202 u203 u204 u205 u206 u207 u208 u209 u210 u211 u212 u213 u214 u215 u216 u217 u218 u219 u220 u221 u222 u223 u224 u225 u226 u227 u228 u229 u230 u231 u232 u233 u234 u235 u236 u237 u238 u239 u240 u241 u242 u243 u244 u245 u246 u247 u248 u249 u250 u251 u252 u253
    rintro ⟨made, s, F, sd, on, rfl, rfl, rfl, _, _, _, _, _, _, hP⟩
    have HB := Lib.hid hP.net.2
    clear hP hMI hMI2
    go_wp2
    go_ret
    exact ⟨rfl, HB.out⟩
end Go.Proofs.Ytepmnkelfaiapaa
