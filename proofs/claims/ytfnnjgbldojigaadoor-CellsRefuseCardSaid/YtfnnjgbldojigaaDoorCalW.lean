/- Calls of a log whose tape has power and room. -/
import Derived.Test.YtfnnjgbldojigaaDoorKepW
set_option linter.unusedVariables false
set_option linter.unusedSimpArgs false
namespace Go.Proofs.YtfnnjgbldojigaaDoor
open Go.RowKit Go.Proofs.YtfnnjgbldojigaaDoorW.PrintWords Go.Proofs.Mine Go.Proofs.Mine.Crc

/-- A tape that bears just these records; a log that has them. -/
noncomputable def gs (room : Int) (rs : List (List UInt8)) (sy : Nat) (ops : Int) : TS := ⟨room, n8 (framesOf rs), sy, 0, false, ops⟩
noncomputable def gl (rs : List (List UInt8)) : LS := ⟨rs, (framesOf rs).length⟩
/-- A tape behind a crash. -/
noncomputable def cs (room : Int) (rs : List (List UInt8)) (c : Nat) (ops : Int) : TS := ⟨room, n8 ((framesOf rs).take c), c, 0, false, ops⟩
theorem frames_len_snoc (rs : List (List UInt8)) (x : List UInt8) : (framesOf (rs ++ [x])).length = (framesOf rs).length + (x.length + 8) := by rw [framesOf_snoc, List.length_append, frameOf_length]
theorem frames_rows (rs : List (List UInt8)) : 8 * rs.length ≤ (framesOf rs).length := by
  induction rs with
  | nil => simp
  | cons r rs ih =>
    have e : framesOf (r :: rs) = frameOf r ++ framesOf rs := by simp [framesOf]
    rw [e, List.length_append, frameOf_length, List.length_cons]; omega
theorem gs_room {w0 w : World} {bt bl : Nat} {F : Nat → Prop} {room ops : Int} {rs : List (List UInt8)} {sy : Nat} {ls : LS} (h : WalIn w0 bt bl (gs room rs sy ops) ls w F) : ((framesOf rs).length : Int) ≤ room ∧ room ≤ 1073741824 ∧ 0 ≤ ops := by
  have h1 := h.ok.len
  have h2 := h.ok.room2
  have h3 := h.ok.ops0
  have e : (gs room rs sy ops).l.length = (framesOf rs).length := n8_len _
  rw [e] at h1
  exact ⟨h1, h2, h3⟩
theorem cal_append (A : Option Addr) (c : Nat) (x : List UInt8) (w0 w : World) (bt bl : Nat) (room ops : Int) (rs : List (List UInt8)) (sy : Nat) (F : Nat → Prop) (h : WalIn w0 bt bl (gs room rs sy ops) (gl rs) w F) (ho : ops < 1000000000) (hx : Bytes w A x) (hxl : x.length ≤ 65536) (hxB : 0 < x.length → ∀ a, A = some a → ¬ F a.block) (hr : rs.length ≤ 1000000) (hroom : ((framesOf rs).length : Int) + (x.length : Int) + 8 ≤ room) :
    Calls Tryd.prog 18 #[.pointer (some ⟨bl, 0, none⟩), .slice A x.length c] w fun r w' => r = .returned (.int .i64 0) ∧ WalOut w0 bt bl (gs room (rs ++ [x]) sy (ops + 1)) (gl (rs ++ [x])) w F w' := by
  have hg := gs_room h
  have hc := append_calm (s := gs room rs sy ops) (x := n8 (frameOf x)) rfl rfl (by show ((n8 (framesOf rs)).length : Int) + ((n8 (frameOf x)).length : Int) ≤ room; rw [n8_len, n8_len, frameOf_length]; push_cast; omega)
  refine (wlappend_any A c x w0 w bt bl _ _ F h ho hx hxl hxB hr (by show (framesOf rs).length ≤ _; omega)).mono ?_
  rintro r w' ⟨rfl, h1, _⟩
  refine ⟨by rw [hc.1], ?_⟩
  have h2 := h1 hc.1
  rw [hc.2] at h2
  have e1 : ({ gs room rs sy ops with l := (gs room rs sy ops).l ++ n8 (frameOf x), ops := (gs room rs sy ops).ops + 1 } : TS) = gs room (rs ++ [x]) sy (ops + 1) := by
    unfold gs; rw [framesOf_snoc, n8_app]
  have e2 : (⟨(gl rs).rows ++ [x], (gl rs).size + (x.length + 8)⟩ : LS) = gl (rs ++ [x]) := by
    unfold gl; rw [frames_len_snoc]
  rw [e1, e2] at h2
  exact h2
theorem cal_sync (w0 w : World) (bt bl : Nat) (room ops : Int) (rs : List (List UInt8)) (sy : Nat) (F : Nat → Prop) (h : WalIn w0 bt bl (gs room rs sy ops) (gl rs) w F) (ho : ops < 1000000000) :
    Calls Tryd.prog 24 #[.pointer (some ⟨bl, 0, none⟩)] w fun r w' => r = .returned (.int .i64 0) ∧ WalOut w0 bt bl (gs room rs (framesOf rs).length (ops + 1)) (gl rs) w F w' := by
  have hg := gs_room h
  have hc := sync_calm (s := gs room rs sy ops) rfl rfl (by show 0 ≤ room; omega)
  refine (wsync_any w0 w bt bl _ _ F h ho).mono ?_
  rintro r w' ⟨rfl, h1⟩
  rw [hc.2] at h1
  have e1 : ({ gs room rs sy ops with synced := (gs room rs sy ops).l.length, ops := (gs room rs sy ops).ops + 1 } : TS) = gs room rs (framesOf rs).length (ops + 1) := by
    unfold gs; rw [n8_len]
  rw [e1] at h1
  exact ⟨by rw [hc.1], h1⟩
theorem cal_keep (A : Option Addr) (c : Nat) (hs : List Hd) (w0 w : World) (bt bl : Nat) (room ops : Int) (rs : List (List UInt8)) (sy : Nat) (F : Nat → Prop) (h : WalIn w0 bt bl (gs room rs sy ops) (gl rs) w F) (ho : ops < 1000000000) (hrow : HRow w A hs.length hs) (hin : HdsIn w hs) (h8 : hs.length ≤ 1000) (hsm : ∀ y ∈ hs, y.l.length ≤ 65536) (hroom : ((framesOf (hs.map (·.l))).length : Int) ≤ room) :
    Calls Tryd.prog 25 #[.pointer (some ⟨bl, 0, none⟩), .slice A hs.length c] w fun r w' => r = .returned (.int .i64 0) ∧ WalOut w0 bt bl (gs room (hs.map (·.l)) (framesOf (hs.map (·.l))).length (ops + 1)) (gl (hs.map (·.l))) w F w' := by
  have hc := replace_calm (s := gs room rs sy ops) (x := n8 (framesOf (hs.map (·.l)))) rfl rfl (by rw [n8_len]; exact hroom)
  refine (wlkeep_any A c hs w0 w bt bl _ _ F h ho hrow hin h8 hsm).mono ?_
  rintro r w' ⟨rfl, h1, _⟩
  refine ⟨by rw [hc.1], ?_⟩
  have h2 := h1 hc.1
  rw [hc.2] at h2
  have e1 : ({ gs room rs sy ops with l := n8 (framesOf (hs.map (·.l))), synced := (n8 (framesOf (hs.map (·.l)))).length, ops := (gs room rs sy ops).ops + 1 } : TS) = gs room (hs.map (·.l)) (framesOf (hs.map (·.l))).length (ops + 1) := by
    unfold gs; rw [n8_len]
  rw [e1] at h2
  exact h2
theorem cal_all (w0 w : World) (bt bl : Nat) (s : TS) (rs : List (List UInt8)) (F : Nat → Prop) (h : WalIn w0 bt bl s (gl rs) w F) (hr : rs.length ≤ 1000000) (hsz : ∀ r ∈ rs, r.length ≤ 1000000) :
    Calls Tryd.prog 21 #[.pointer (some ⟨bl, 0, none⟩)] w fun r w' => ∃ v, r = .returned v ∧ rowsK.R 32 w' w.heap.size (fun _ => True) v rs ∧ Below w.heap.size w w' := wall_any w0 w bt bl s (gl rs) F h hr hsz
theorem cal_size (w0 w : World) (bt bl : Nat) (s : TS) (rs : List (List UInt8)) (F : Nat → Prop) (h : WalIn w0 bt bl s (gl rs) w F) :
    Calls Tryd.prog 26 #[.pointer (some ⟨bl, 0, none⟩)] w fun r w' => r = .returned (.int .i64 ((framesOf rs).length : Int)) ∧ w = w' := wsize_any w0 w bt bl s (gl rs) F h
theorem cal_crash (pick : Int) (w0 w : World) (bt bl : Nat) (room ops : Int) (rs : List (List UInt8)) (sy : Nat) (ls : LS) (F : Nat → Prop) (h : WalIn w0 bt bl (gs room rs sy ops) ls w F) :
    Calls Tryd.prog 19 #[.pointer (some ⟨bt, 0, none⟩), .int .i64 pick] w fun r w' => r = .returned (.int .i64 (crashK (gs room rs sy ops) pick : Int)) ∧ sy + crashK (gs room rs sy ops) pick ≤ (framesOf rs).length ∧ WalOut w0 bt bl (cs room rs (sy + crashK (gs room rs sy ops) pick) ops) ls w F w' := by
  have hk := crashK_le (gs room rs sy ops) h.ok.syn pick
  refine (wcrash_any pick w0 w bt bl _ _ F h).mono ?_
  rintro r w' ⟨rfl, h1⟩
  have e1 : crashS (gs room rs sy ops) pick = cs room rs (sy + crashK (gs room rs sy ops) pick) ops := by
    unfold crashS cs
    show (⟨room, (n8 (framesOf rs)).take _, _, 0, false, ops⟩ : TS) = _
    rw [n8_take]; rfl
  rw [e1] at h1
  refine ⟨rfl, ?_, h1⟩
  have e2 : (gs room rs sy ops).l.length = (framesOf rs).length := n8_len _
  rw [e2] at hk
  exact hk
/-- Opened: the log has its records. -/
def OpenOk (w0 : World) (bt : Nat) (room : Int) (rs : List (List UInt8)) (sy : Nat) (ops : Int) (w : World) (F : Nat → Prop) (r : Ending) (w' : World) : Prop :=
  ∃ bl F' o, r = .returned (.tuple #[.pointer (some ⟨bl, 0, none⟩), .int .i64 0]) ∧ WalIn w0 bt bl (gs room rs sy o) (gl rs) w' F' ∧ ops ≤ o ∧ o ≤ ops + 1 ∧ (∀ k, F' k → F k ∨ w.heap.size ≤ k) ∧ Keep F w w'
theorem cal_open (w0 w : World) (bt : Nat) (room ops : Int) (rs : List (List UInt8)) (sy : Nat) (F : Nat → Prop) (h : TapeIn w0 bt (gs room rs sy ops) w F) (ho : ops < 1000000000) (hs : ∀ r ∈ rs, r.length ≤ 65536) (hl : (framesOf rs).length ≤ 1000000) :
    Calls Tryd.prog 15 #[.pointer (some ⟨bt, 0, none⟩)] w (OpenOk w0 bt room rs sy ops w F) := by
  have hsp := split_front_of rs (framesOf rs).length hs (Nat.le_refl _) ((framesOf rs).length + 1) (by omega)
  rw [List.take_length] at hsp
  have hw : wholeOf rs (framesOf rs).length = rs.length := by
    have h1 := wholeOf_le rs (framesOf rs).length
    rcases Nat.lt_or_ge (wholeOf rs (framesOf rs).length) rs.length with h2 | h2
    · have h3 := wholeOf_next rs _ h2
      rw [framesOf_len_all] at h3
      have h4 := endOf_mono rs (wholeOf rs (endOf rs rs.length) + 1) rs.length (by rw [← framesOf_len_all]; omega)
      omega
    · omega
  rw [hw, List.take_length, ← framesOf_len_all] at hsp
  refine (open_any w0 w bt _ F (framesOf rs) rs (framesOf rs).length h rfl rfl hsp hl (Nat.le_refl _) ho).mono ?_
  intro r w' h1
  have e1 : openE (gs room rs sy ops) (framesOf rs) (framesOf rs).length = 0 := if_neg (Nat.lt_irrefl _)
  have e2 : openS (gs room rs sy ops) (framesOf rs) (framesOf rs).length = gs room rs sy ops := if_neg (Nat.lt_irrefl _)
  rcases h1 with ⟨_, bl, F', g1, g2, g3, g4⟩ | ⟨g0, _⟩
  · rw [e2] at g2
    exact ⟨bl, F', ops, g1, g2, Int.le_refl _, by omega, g3, g4⟩
  · exact absurd e1 g0
/-- Behind a crash: what is whole. -/
theorem cal_reopen (w0 w : World) (bt : Nat) (room ops : Int) (rs : List (List UInt8)) (c : Nat) (F : Nat → Prop) (h : TapeIn w0 bt (cs room rs c ops) w F) (ho : ops < 1000000000) (hs : ∀ r ∈ rs, r.length ≤ 65536) (hl : (framesOf rs).length ≤ 1000000) (hc : c ≤ (framesOf rs).length) :
    Calls Tryd.prog 15 #[.pointer (some ⟨bt, 0, none⟩)] w (OpenOk w0 bt room (rs.take (wholeOf rs c)) (endOf rs (wholeOf rs c)) ops w F) := by
  obtain ⟨b, hb⟩ : ∃ b, b = (framesOf rs).take c := ⟨_, rfl⟩
  have hbl : b.length = c := by rw [hb, List.length_take]; omega
  have hsp := split_front_of rs c hs hc (b.length + 1) (by omega)
  rw [← hb] at hsp
  have hn := wholeOf_end rs c
  have hroom := h.ok.room2
  have hlen := h.ok.len
  have e0 : (cs room rs c ops).l = n8 b := by rw [hb]; rfl
  rw [e0, n8_len] at hlen
  have hfr : framesOf (rs.take (wholeOf rs c)) = b.take (endOf rs (wholeOf rs c)) := by
    rw [endOf_wholes, hb, List.take_take, Nat.min_eq_left hn]
  have hgl : (⟨rs.take (wholeOf rs c), endOf rs (wholeOf rs c)⟩ : LS) = gl (rs.take (wholeOf rs c)) := by
    unfold gl; rw [hfr, List.length_take]; congr 1; omega
  refine (open_any w0 w bt _ F b _ _ h rfl e0 hsp (by omega) (by omega) ho).mono ?_
  intro r w' h1
  by_cases hlt : endOf rs (wholeOf rs c) < b.length
  · have hcm := replace_calm (s := cs room rs c ops) (x := n8 (b.take (endOf rs (wholeOf rs c)))) rfl rfl (by rw [n8_len, List.length_take]; show _ ≤ room; have : ((b.length : Nat) : Int) ≤ room := hlen; omega)
    have e1 : openE (cs room rs c ops) b (endOf rs (wholeOf rs c)) = 0 := (if_pos hlt).trans hcm.1
    have e2 : openS (cs room rs c ops) b (endOf rs (wholeOf rs c)) = gs room (rs.take (wholeOf rs c)) (endOf rs (wholeOf rs c)) (ops + 1) := by
      refine (if_pos hlt).trans (hcm.2.trans ?_)
      unfold gs
      rw [hfr, n8_len, List.length_take, Nat.min_eq_left (by omega)]
      rfl
    rcases h1 with ⟨_, bl, F', g1, g2, g3, g4⟩ | ⟨g0, _⟩
    · rw [e2, hgl] at g2
      exact ⟨bl, F', ops + 1, g1, g2, by omega, Int.le_refl _, g3, g4⟩
    · exact absurd e1 g0
  · have he : endOf rs (wholeOf rs c) = c := by omega
    have e1 : openE (cs room rs c ops) b (endOf rs (wholeOf rs c)) = 0 := if_neg hlt
    have e2 : openS (cs room rs c ops) b (endOf rs (wholeOf rs c)) = gs room (rs.take (wholeOf rs c)) (endOf rs (wholeOf rs c)) ops := by
      refine (if_neg hlt).trans ?_
      unfold gs cs
      rw [hfr, he, ← hbl, List.take_length, hbl, ← hb]
    rcases h1 with ⟨_, bl, F', g1, g2, g3, g4⟩ | ⟨g0, _⟩
    · rw [e2, hgl] at g2
      exact ⟨bl, F', ops, g1, g2, Int.le_refl _, by omega, g3, g4⟩
    · exact absurd e1 g0
end Go.Proofs.YtfnnjgbldojigaaDoor
