/- The walk of TapePlays. -/
import Derived.Test.YtjjlojaaefipmaaDoorPlaysP
set_option linter.unusedVariables false
set_option linter.unusedSimpArgs false
namespace Go.Proofs.YtjjlojaaefipmaaDoor
open Go.RowKit Go.Proofs.YtjjlojaaefipmaaDoorW.PrintWords Go.Proofs.Mine

theorem ref_new (w : World) (room : Int) (base : Nat) (hb : base ≤ w.heap.size) : RefAt (w.alloc (.cells #[.int .i64 room, .int .i64 0, .slice none 0 0, .int .i64 0, .int .i64 0, .bool false] 49)) base (fun k => k = w.heap.size) w.heap.size (new0 room) :=
  ⟨rfl, fun k hk => by subst hk; exact ⟨hb, by simp⟩, .slice none 0 0, heap_alloc_new w _, .inl ⟨rfl, rfl⟩, fun k hk => by cases hk⟩
theorem plays_start {w w1 w2 : World} {b : Nat} {s : TS} {F : Nat → Prop} (h : TapeIn w b s w2 F) (room : Int) : PlaysAt w b w2.heap.size s (new0 room) F (fun k => k = w2.heap.size) (w2.alloc (.cells #[.int .i64 room, .int .i64 0, .slice none 0 0, .int .i64 0, .int .i64 0, .bool false] 49)) :=
  ⟨h.to ((Below.refl _ _).alloc (Nat.le_refl _) _), ref_new w2 room w.heap.size h.below.size, fun j hf e => by subst e; have := (h.at_.2.1 _ hf).2; omega⟩
theorem mid_start {w wr W w3 : World} {b b2 : Nat} {s : TS} {F G : Nat → Prop} {o : Obj} {v u : Value} {L : List Int} (h : PlaysAt w b b2 s s F G wr) (hW : W = (wr.alloc o).alloc (.cells #[] 5)) (hu : u.ownBlock = some (wr.heap.size + 1)) (hv : Buf .u8 5 w3 w.heap.size v L) (hg : W.grownBy w3 u.ownBlock) (hat : v.ownBlock = u.ownBlock ∨ ∃ b, v.ownBlock = some b ∧ W.heap.size ≤ b) : Mid w b b2 s s F G w3 v L wr.heap.size o := by
  have hBW : Below wr.heap.size wr W := by rw [hW]; exact ((Below.refl _ _).alloc (Nat.le_refl _) o).alloc (by simp) _
  have hk : Keep (fun k => k = wr.heap.size + 1) W w3 := Keep.of_grown hg (fun k hk => by rw [hu] at hk; injection hk with hk; exact hk.symm)
  have hB : Below wr.heap.size wr w3 := hBW.trans (hk.to_below hBW.size (fun k e => by subst e; omega))
  have hF : ∀ j, wr.heap.size ≤ j → ¬ F j := fun j hj hf => by have := (h.tp.at_.2.1 _ hf).2; omega
  have hG : ∀ j, wr.heap.size ≤ j → ¬ G j := fun j hj hf => by have := (h.rf.2.1 _ hf).2; omega
  have hbox : W.heap[wr.heap.size]? = some o := by
    rw [hW, heap_alloc_old _ _ (by simp)]
    exact heap_alloc_new wr o
  have hs : W.heap.size = wr.heap.size + 2 := by rw [hW]; simp
  refine ⟨h.to hB, hv, fun j hj => ?_, hk.blk hbox (by omega), hF _ (Nat.le_refl _), hG _ (Nat.le_refl _)⟩
  have hj2 : wr.heap.size ≤ j := by
    rcases hat with e | ⟨b', e, hb'⟩
    · rw [e, hu] at hj; injection hj with hj; omega
    · rw [e] at hj; injection hj with hj; omega
  exact ⟨hF j hj2, hG j hj2⟩
theorem away2 {w wr : World} {b b2 : Nat} {s1 s2 : TS} {F G : Nat → Prop} (h : PlaysAt w b b2 s1 s2 F G wr) {A : Option Addr} {n : Nat} {l : List Int} (hr : ReadsInt w .u8 A n l) : 0 < n → ∀ a, A = some a → ¬ G a.block := by
  intro hp a ha hf
  obtain ⟨ad, ha', hc⟩ := hr.2.2 hp
  rw [ha] at ha'
  injection ha' with ha'
  subst ha'
  have h0 := World.block_lt_of_cell? w _ (hc 0 hp)
  rw [add_block] at h0
  have := (h.rf.2.1 _ hf).1
  omega
theorem Mid.reads {w wr : World} {b b2 : Nat} {s1 s2 : TS} {F G : Nat → Prop} {A : Option Addr} {c : Nat} {L : List Int} {pc : Nat} {o : Obj} (h : Mid w b b2 s1 s2 F G wr (.slice A L.length c) L pc o) : ReadsInt wr .u8 A L.length L := buf_reads h.buf
theorem Mid.away {w wr : World} {b b2 : Nat} {s1 s2 : TS} {F G : Nat → Prop} {A : Option Addr} {c : Nat} {L : List Int} {pc : Nat} {o : Obj} (h : Mid w b b2 s1 s2 F G wr (.slice A L.length c) L pc o) : 0 < L.length → ∀ a, A = some a → ¬ F a.block := by
  intro _ a ha
  subst ha
  exact (h.out a.block rfl).1
/-- Wiped, if there is a row at all. -/
def WipedA (w : World) (b b2 : Nat) (s : TS) (F G : Nat → Prop) (wr : World) (A : Option Addr) (n : Nat) : Prop := PlaysAt w b b2 s s F G wr ∧ (0 < n → ∃ g, A = some ⟨g, 0, none⟩ ∧ Wiped w b b2 s F G wr g n)
theorem Mid.wiped {w wr : World} {b b2 : Nat} {s : TS} {F G : Nat → Prop} {A : Option Addr} {n c : Nat} {L : List Int} {pc : Nat} {o : Obj} (h : Mid w b b2 s s F G wr (.slice A n c) L pc o) : WipedA w b b2 s F G wr A n := by
  refine ⟨h.pl, fun hn => ?_⟩
  rcases h.buf with ⟨hv, rfl⟩ | ⟨g, cap, cur, hv, h1, h2, h3, h4, h5, h6⟩
  · injection hv with _ h2 _; omega
  · injection hv with hA hl hc
    subst hA hl
    exact ⟨g, rfl, h.pl, ⟨cur, h2, by omega⟩, h.out g rfl, h1⟩
theorem box2 {wr : World} {pc : Nat} {a c : Int} {v : Value} (h : wr.heap[pc]? = some (.cells #[.int .i64 a, .int .i64 c, v] 45 (0, 0))) : wr.cell? ⟨pc, 2, none⟩ = some v := blk_cell h 2
theorem box1 {wr : World} {pc : Nat} {a c : Int} {v : Value} (h : wr.heap[pc]? = some (.cells #[.int .i64 a, .int .i64 c, v] 45 (0, 0))) : wr.cell? ⟨pc, 1, none⟩ = some (.int .i64 c) := blk_cell h 1
set_option maxRecDepth 100000 in
set_option maxHeartbeats 4000000 in
theorem plays_any (a0 : Int) (A1 : Option Addr) (cap1 : Nat) (cs : List Cl) (w : World) (hg0 : Laid w) (hr1 : clK.C w A1 cs.length cs) :
    Calls Tryd.prog 7 #[.int .i64 a0, .slice A1 cs.length cap1] w fun e w' => e = .returned (.bool true) ∧ Below w.heap.size w w' := by
  have HG := Lib.hid hg0
  have R1 := Lib.hid hr1
  have hm1 : cs.length ≤ 9223372036854775807 := hr1.2.1
  clear hg0 hr1
  by_cases hbad : a0 < 1 ∨ 1073741824 < a0
  · go_enter Tryd.func7, Tryd.ntmps7
    go_wp2_with (first
      | (go_at_call 8; refine (known_any w HG.out).mono ?_; rintro e w1 ⟨rfl, hB⟩; have HB1 := Lib.hid hB; clear hB)
      | (go_at_call 9; refine (new_no a0 w1 hbad).mono ?_; rintro r w2 ⟨rfl, rfl⟩)
      | (go_at_call 17; refine (rnew_no a0 _ hbad).mono ?_; rintro r w3 ⟨rfl, rfl⟩))
    go_loopw [9, 10, 11] (fun _ _ _ wr => Below w.heap.size w wr) (fun _ _ _ _ => 0)
    case atStart => exact HB1.out
    case round =>
      have HBR := Lib.hid hrel
      clear hrel
      go_wp2
      go_ret
      exact ⟨rfl, HBR.out⟩
  have hr0 : 1 ≤ a0 := by omega
  have hr2 : a0 ≤ 1073741824 := by omega
  clear hbad
  go_enter Tryd.func7, Tryd.ntmps7
  go_wp2_with (first
    | (go_at_call 8; refine (known_any w HG.out).mono ?_; rintro e w1 ⟨rfl, hB⟩; have HB1 := Lib.hid hB; clear hB)
    | (go_at_call 9; refine (new_ok a0 w1 hr0 hr2).mono ?_; rintro r w2 ⟨rfl, hw2⟩; have HI := in_new HG.out HB1.out a0 hr0 hr2; rw [← hw2] at HI; have HT2 := Lib.hid HI; clear HI hw2; generalize w1.heap.size = b at *)
    | (go_at_call 17; refine (rnew_ok a0 w2 hr0 hr2).mono ?_; rintro r w3 ⟨rfl, hw3⟩; have HI := plays_start (w1 := w) HT2.out a0; rw [← hw3] at HI; have HP3 := Lib.hid HI; clear HI hw3; generalize w2.heap.size = b2 at *))
  go_loopw [9, 10, 11, 12] (fun iv _ _ _ wr => ∃ (k : Nat) (s : TS) (F G : Nat → Prop), k ≤ 100 ∧ k ≤ cs.length ∧ iv = .int .i64 (k : Int) ∧ PlaysAt w b b2 s s F G wr ∧ 0 ≤ s.ops ∧ s.ops ≤ k) (fun iv _ _ _ _ => 100 - (intOf iv).toNat)
  case atStart => exact ⟨0, new0 a0, _, _, by omega, by omega, rfl, HP3.out, show (0 : Int) ≤ 0 by decide, show (0 : Int) ≤ 0 by decide⟩
  case round =>
    obtain ⟨k, s, F, G, hk100, hkl, rfl, hp, ho0, ho1⟩ := hrel
    have HP := Lib.hid hp
    clear hp HP3
    by_cases hlt : k < cs.length ∧ k < 100
    · obtain ⟨x, hx⟩ : ∃ x, cs[k]? = some x := ⟨_, List.getElem?_eq_getElem hlt.1⟩
      obtain ⟨ad, Bx, cx, rfl, h0, h1, h2, hxn, hbx⟩ := cl_at R1.out hx
      have hxm := hbx.2.1
      have HBX := Lib.hid hbx
      have HXN := Lib.hid hxn
      have HOK := Lib.hid HP.out.tp.ok
      obtain ⟨ea, hea⟩ : ∃ ea, ea = ad.add (k * 3) := ⟨_, rfl⟩
      rw [← hea] at h0 h1 h2
      have q0 : wr.cell? ea = some (.int .i64 x.kd) := pw_cell_below HP.out.tp.below h0
      have q1 : wr.cell? ⟨ea.block, ea.off + 1, none⟩ = some (.int .i64 x.n) := pw_cell_below HP.out.tp.below h1
      have q2 : wr.cell? ⟨ea.block, ea.off + 2, none⟩ = some (.slice Bx x.b.length cx) := pw_cell_below HP.out.tp.below h2
      have hlt1 : (k : Int) < (cs.length : Int) := by omega
      have hlt2 : (k : Int) < 100 := by omega
      have hk0 : (0 : Int) ≤ (k : Int) := by omega
      have hea2 := hea.symm
      clear hx hbx hxn h0 h1 h2 hea
      by_cases hx3 : (1000 : Int) < (x.b.length : Int)
      · go_wp2_with fail
        exact ⟨⟨k + 1, s, F, G, by omega, by omega, by simp, HP.out.to ((Below.refl _ _).alloc (Nat.le_refl _) _), ho0, by push_cast; omega⟩, by simp [intOf]; omega⟩
      have hx4 : x.b.length ≤ 1000 := by omega
      obtain ⟨o, ho⟩ : ∃ o, o = Obj.cells #[.int .i64 x.kd, .int .i64 x.n, .slice Bx x.b.length cx] 45 := ⟨_, rfl⟩
      obtain ⟨WA, hWA⟩ : ∃ W, W = (wr.alloc o).alloc (.cells #[] 5) := ⟨_, rfl⟩
      have hBA : Below wr.heap.size wr WA := by rw [hWA]; exact ((Below.refl _ _).alloc (Nat.le_refl _) o).alloc (by simp) _
      have hlb : Buf .u8 5 WA w.heap.size (.slice (some ⟨wr.heap.size + 1, 0, none⟩) 0 0) [] := by
        have := lit_buf2 (w4 := wr.alloc o) (base := w.heap.size) (by have := HP.out.tp.below.size; simp; omega)
        rw [hWA]; simpa using this
      have hrA : ReadsInt WA .u8 Bx x.b.length x.b := (HBX.out.below HP.out.tp.below).below hBA
      have hbwA : w.heap.size ≤ WA.heap.size := by have := HP.out.tp.below.size; have := hBA.size; omega
      have hblA : (([] : List Int).length + x.b.length) * 1 ≤ 140737488355328 := by simp only [List.length_nil]; omega
      have hmA := fun v w3 h1 h2 h3 => mid_start (v := v) (w3 := w3) (L := x.b) (u := .slice (some ⟨wr.heap.size + 1, 0, none⟩) 0 0) HP.out hWA rfl h1 h2 h3
      have HLB := Lib.hid hlb
      have HRA := Lib.hid hrA
      have HMA := Lib.hid hmA
      subst ho hWA
      clear hlb hrA hmA hBA
      rcases five_ways x.kd with hkd | hkd | hkd | hkd | hkd
      · go_wp2_with (first
          | (at_builtin
             refine wpList_append_buf ((wr.alloc _).alloc (.cells #[] 5)) rfl _ _ 22 5 .u8 1 w.heap.size rfl Tryd.underlying22 info5 (by decide) (.slice (some ⟨wr.heap.size + 1, 0, none⟩) 0 0) [] x.b Bx x.b.length cx ?st01 ?st02 HLB.out HRA.out hbwA hblA ?st03
             case st01 => rfl
             case st02 => rfl
             intro v3 w3 hv hg hat
             rw [List.nil_append] at hv
             have hM := HMA.out v3 w3 hv hg hat
             obtain ⟨Aa, ca, rfl⟩ := hv.slice
             have qk : w3.cell? ⟨wr.heap.size, 0, none⟩ = some (.int .i64 x.kd) := blk_cell hM.box 0
             have qn : w3.cell? ⟨wr.heap.size, 1, none⟩ = some (.int .i64 x.n) := blk_cell hM.box 1
             have qb : w3.cell? ⟨wr.heap.size, 2, none⟩ = some (.slice Bx x.b.length cx) := blk_cell hM.box 2
             have HM := Lib.hid hM
             clear hv hg hat hM HLB HRA HMA hbwA hblA q0 q1 q2
             generalize wr.heap.size = pc at *)
          | (go_at_call 14; refine (within_any x.kd 5 w3 (by decide) (by decide)).mono ?_; rintro e w2 ⟨rfl, rfl⟩; rw [hkd]))
        have HMD := Lib.hid HM.out.drew
        refine wp_region_noPanic ?_
        refine wp_region_held_drew (S := (fun w' => w'.cell? ⟨pc, 2, none⟩ = some (.slice Bx x.b.length cx))) (by kernel_rfl) ?kas0 (fun hHeld0 => ?kar0)
        case kas0 => (try dsimp only); exact (box2 HMD.out.box)
        refine wpAnyH_take (i := 0) (v := ?kav1) (by simp only [List.getElem?_toArray, List.getElem?_cons_zero, List.getElem?_cons_succ]; rfl) (by kernel_rfl) (by kernel_rfl) (by kernel_rfl) (fun _ _ _ h => h) (Or.inl ⟨by rfl, ?kah1⟩) hHeld0 ?kaq1
        case kah1 => (intro w hSw; (try dsimp only at hSw); go_simp <;> with_reducible rfl)
        try simp only [Act.put, List.setIfInBounds_toArray, List.set_cons_zero, List.set_cons_succ]
        refine wpAnyH_take (i := 1) (v := ?kav2) (by simp only [List.getElem?_toArray, List.getElem?_cons_zero, List.getElem?_cons_succ]; rfl) (by kernel_rfl) (by kernel_rfl) (by kernel_rfl) (fun _ _ _ h => h) (Or.inl ⟨by rfl, ?kah2⟩) hHeld0 ?kaq2
        case kah2 => (intro w hSw; (try dsimp only at hSw); go_simp <;> with_reducible rfl)
        try simp only [Act.put, List.setIfInBounds_toArray, List.set_cons_zero, List.set_cons_succ]
        refine wpAnyH_take (i := 3) (v := ?kav3) (by simp only [List.getElem?_toArray, List.getElem?_cons_zero, List.getElem?_cons_succ]; rfl) (by kernel_rfl) (by kernel_rfl) (by kernel_rfl) (fun _ _ _ h => h) (Or.inl ⟨by rfl, ?kah3⟩) hHeld0 ?kaq3
        case kah3 => (intro w hSw; (try dsimp only at hSw); go_simp <;> with_reducible rfl)
        try simp only [Act.put, List.setIfInBounds_toArray, List.set_cons_zero, List.set_cons_succ]
        refine wpAnyH_take (i := 4) (v := ?kav4) (by simp only [List.getElem?_toArray, List.getElem?_cons_zero, List.getElem?_cons_succ]; rfl) (by kernel_rfl) (by kernel_rfl) (by kernel_rfl) (fun _ _ _ h => h) (Or.inl ⟨by rfl, ?kah4⟩) hHeld0 ?kaq4
        case kah4 => (intro w hSw; (try dsimp only at hSw); go_simp <;> with_reducible rfl)
        try simp only [Act.put, List.setIfInBounds_toArray, List.set_cons_zero, List.set_cons_succ]
        refine wpAnyH_take (i := 5) (v := ?kav5) (by simp only [List.getElem?_toArray, List.getElem?_cons_zero, List.getElem?_cons_succ]; rfl) (by kernel_rfl) (by kernel_rfl) (by kernel_rfl) (fun _ _ _ h => h) (Or.inl ⟨by rfl, ?kah5⟩) hHeld0 ?kaq5
        case kah5 => (intro w hSw; (try dsimp only at hSw); go_simp <;> with_reducible rfl)
        try simp only [Act.put, List.setIfInBounds_toArray, List.set_cons_zero, List.set_cons_succ]
        refine wpAnyH_ready (rs := [2]) (by kernel_rfl) (by simp) ?_
        refine AllReadyH.cons (by simp only [List.getElem?_toArray, List.getElem?_cons_zero, List.getElem?_cons_succ]; rfl) (fun K hK => ?_) AllReadyH.nil
        go_simp
        go_at_call 10
        refine (append_in Aa ca x.b w w3.drew b F s HMD.out.pl.tp (by omega) HMD.out.reads HMD.out.away (by omega)).mono ?_
        rintro r w4 ⟨rfl, hT⟩
        obtain ⟨F4, hM4⟩ := HMD.out.tape hT
        have HM4 := Lib.hid hM4
        clear hT hM4
        refine hK.out _ _ ?kas6 (fun hHeld1 => ?kaq6)
        case kas6 => (try dsimp only); exact (box2 HM4.out.box)
        clear hK K
        try simp only [Act.put, List.setIfInBounds_toArray, List.set_cons_zero, List.set_cons_succ]
        refine wpAnyH_ready (rs := [6]) (by kernel_rfl) (by simp) ?_
        refine AllReadyH.cons (by simp only [List.getElem?_toArray, List.getElem?_cons_zero, List.getElem?_cons_succ]; rfl) (fun K hK => ?_) AllReadyH.nil
        go_simp
        go_at_call 18
        refine (rappend_any Bx cx x.b w4 w.heap.size b2 G s HOK.out HM4.out.pl.rf (HBX.out.below HM4.out.pl.tp.below) (away2 HM4.out.pl HBX.out) (by omega)).mono ?_
        rintro r w5 ⟨rfl, hR⟩
        obtain ⟨G5, hM5⟩ := HM4.out.ref hR
        have HM5 := Lib.hid hM5
        clear hR hM5
        refine hK.out _ _ ?kas7 (fun hHeld2 => ?kaq7)
        case kas7 => (try dsimp only); exact (box2 HM5.out.box)
        clear hK K
        try simp only [Act.put, List.setIfInBounds_toArray, List.set_cons_zero, List.set_cons_succ]
        refine wpAnyH_take (i := 7) (v := ?kav8) (by simp only [List.getElem?_toArray, List.getElem?_cons_zero, List.getElem?_cons_succ]; rfl) (by kernel_rfl) (by kernel_rfl) (by kernel_rfl) (fun _ _ _ h => h) (Or.inl ⟨by rfl, ?kah8⟩) hHeld2 ?kaq8
        case kah8 => (intro w hSw; (try dsimp only at hSw); go_simp <;> with_reducible rfl)
        try simp only [Act.put, List.setIfInBounds_toArray, List.set_cons_zero, List.set_cons_succ]
        refine wpAnyH_done (by kernel_rfl) ?_ _
        refine NoPanic.normal ?_
        have hops := ops_append s x.b
        have HM5q := HM5
        have hso0 := (HM5.out.pl.tp.ok).ops0
        generalize (appendS s x.b) = s5 at HM5 HM5q hso0 hops
        clear HM5q
        have HW0 := Lib.hid HM5.out.wiped
        go_wp2_with fail
        go_loopw [12] (fun kv wr => ∃ (j : Nat), j ≤ x.b.length ∧ kv = .int .i64 (j : Int) ∧ WipedA w b b2 s5 F4 G5 wr Aa x.b.length) (fun kv _ => x.b.length - (intOf kv).toNat)
        case atStart => exact ⟨0, by omega, rfl, HW0.out⟩
        case round =>
          obtain ⟨j, hj, rfl, hwp⟩ := hrel
          have HWP := Lib.hid hwp
          clear hwp
          by_cases hjl : (j : Int) < (x.b.length : Int)
          · obtain ⟨g, rfl, hwd⟩ := HWP.out.2 (by omega)
            obtain ⟨cur, hg1, hg2⟩ := hwd.row
            have hj0 : (0 : Int) ≤ (j : Int) := by omega
            obtain ⟨u, hcu⟩ : ∃ u, wr.cell? ⟨g, j, none⟩ = some u := ⟨_, by rw [cell_of_row _ g j _ _ _ hg1]; exact Array.getElem?_eq_getElem (by omega)⟩
            have hfz : wr.frozen? ⟨g, j, none⟩ = false := blk_frozen hg1 j
            have HWD := Lib.hid (hwd.store j (.int .u8 238))
            clear hwd
            go_wp2
            exact ⟨⟨j + 1, by omega, by simp, HWD.out.pl, fun _ => ⟨g, rfl, HWD.out⟩⟩, by simp [intOf]; omega⟩
          · obtain ⟨Ar, cr, hro⟩ := HWP.out.1.rf.open_
            have r2 : wr.drew.cell? ⟨b2, 2, none⟩ = some (.slice Ar s5.l.length cr) := blk_cell hro.blk 2
            have r4 : wr.drew.cell? ⟨b2, 4, none⟩ = some (.int .i64 s5.ops) := blk_cell hro.blk 4
            have r5 : wr.drew.cell? ⟨b2, 5, none⟩ = some (.bool s5.dead) := blk_cell hro.blk 5
            obtain ⟨SL, hSL⟩ : ∃ z, z = strOfNums s5.l := ⟨_, rfl⟩
            have rc : (convert 22 9 (.slice Ar s5.l.length cr)).run Tryd.prog wr.drew = .ok (.string SL) wr.drew := by rw [hSL]; exact str_of (W := wr.drew) (buf_reads hro.buf)
            have heS : (SL.toList == SL.toList) = true := by simp
            have HSL := Lib.hid hSL
            have HRO := Lib.hid hro
            have HTD := Lib.hid (show TapeIn w b s5 wr.drew F4 from ⟨HWP.out.1.tp.at_, HWP.out.1.tp.below.drew, HWP.out.1.tp.laid, HWP.out.1.tp.ok⟩)
            have HRD := Lib.hid (show RefAt wr.drew w.heap.size G5 b2 s5 from HWP.out.1.rf)
            have hjd : decide ((j : Int) < (x.b.length : Int)) = false := by simp; omega
            clear hSL hro
            go_wp2_with fail
            refine wp_region_noPanic ?_
            refine wp_region_held_drew (S := (fun w' => w'.cell? ⟨b2, 2, none⟩ = some (.slice Ar s5.l.length cr) ∧ (convert 22 9 (.slice Ar s5.l.length cr)).run Tryd.prog w' = .ok (.string SL) w' ∧ w'.cell? ⟨b2, 5, none⟩ = some (.bool s5.dead) ∧ w'.cell? ⟨b2, 4, none⟩ = some (.int .i64 s5.ops))) (by kernel_rfl) ?t0s0 (fun hHeld0 => ?t0r0)
            case t0s0 => (try dsimp only); exact ⟨r2, rc, r5, r4⟩
            refine wpAnyH_take (i := 0) (v := ?t0v1) (by simp only [List.getElem?_toArray, List.getElem?_cons_zero, List.getElem?_cons_succ]; rfl) (by kernel_rfl) (by kernel_rfl) (by kernel_rfl) (fun _ _ _ h => h) (Or.inl ⟨by rfl, ?t0h1⟩) hHeld0 ?t0q1
            case t0h1 => (intro w hSw; (try dsimp only at hSw); go_simp <;> with_reducible rfl)
            try simp only [Act.put, List.setIfInBounds_toArray, List.set_cons_zero, List.set_cons_succ]
            refine wpAnyH_take (i := 3) (v := ?t0v2) (by simp only [List.getElem?_toArray, List.getElem?_cons_zero, List.getElem?_cons_succ]; rfl) (by kernel_rfl) (by kernel_rfl) (by kernel_rfl) (fun _ _ _ h => h) (Or.inl ⟨by rfl, ?t0h2⟩) hHeld0 ?t0q2
            case t0h2 => (intro w hSw; (try dsimp only at hSw); go_simp <;> with_reducible rfl)
            try simp only [Act.put, List.setIfInBounds_toArray, List.set_cons_zero, List.set_cons_succ]
            refine wpAnyH_take (i := 4) (v := ?t0v3) (by simp only [List.getElem?_toArray, List.getElem?_cons_zero, List.getElem?_cons_succ]; rfl) (by kernel_rfl) (by kernel_rfl) (by kernel_rfl) (fun _ _ _ h => h) (Or.inl ⟨by rfl, ?t0h3⟩) hHeld0 ?t0q3
            case t0h3 => (intro w hSw; (try dsimp only at hSw); go_simp <;> with_reducible rfl)
            try simp only [Act.put, List.setIfInBounds_toArray, List.set_cons_zero, List.set_cons_succ]
            refine wpAnyH_take (i := 5) (v := ?t0v4) (by simp only [List.getElem?_toArray, List.getElem?_cons_zero, List.getElem?_cons_succ]; rfl) (by kernel_rfl) (by kernel_rfl) (by kernel_rfl) (fun _ _ _ h => h) (Or.inl ⟨by rfl, ?t0h4⟩) hHeld0 ?t0q4
            case t0h4 => (intro w hSw; (try dsimp only at hSw); go_simp <;> with_reducible rfl)
            try simp only [Act.put, List.setIfInBounds_toArray, List.set_cons_zero, List.set_cons_succ]
            refine wpAnyH_take (i := 6) (v := ?t0v5) (by simp only [List.getElem?_toArray, List.getElem?_cons_zero, List.getElem?_cons_succ]; rfl) (by kernel_rfl) (by kernel_rfl) (by kernel_rfl) (fun _ _ _ h => h) (Or.inl ⟨by rfl, ?t0h5⟩) hHeld0 ?t0q5
            case t0h5 => (intro w hSw; (try dsimp only at hSw); go_simp <;> with_reducible rfl)
            try simp only [Act.put, List.setIfInBounds_toArray, List.set_cons_zero, List.set_cons_succ]
            refine wpAnyH_take (i := 7) (v := ?t0v6) (by simp only [List.getElem?_toArray, List.getElem?_cons_zero, List.getElem?_cons_succ]; rfl) (by kernel_rfl) (by kernel_rfl) (by kernel_rfl) (fun _ _ _ h => h) (Or.inl ⟨by rfl, ?t0h6⟩) hHeld0 ?t0q6
            case t0h6 => (intro w hSw; (try dsimp only at hSw); go_simp <;> with_reducible rfl)
            try simp only [Act.put, List.setIfInBounds_toArray, List.set_cons_zero, List.set_cons_succ]
            refine wpAnyH_ready (rs := [1]) (by kernel_rfl) (by simp) ?_
            refine AllReadyH.cons (by simp only [List.getElem?_toArray, List.getElem?_cons_zero, List.getElem?_cons_succ]; rfl) (fun K hK => ?_) AllReadyH.nil
            go_simp
            go_at_call 13
            refine (bytes_in w wr.drew b F4 s5 HTD.out).mono ?_
            rintro r w6 ⟨A6, c6, rfl, hT6, hB6, hv6⟩
            have hR6 := HRD.out.below hB6
            have hk6 := Keep.of_below hB6 (fun _ => False)
            have hb6 := hk6.blk (show wr.drew.heap[b2]? = some _ from HRO.out.blk) (fun h => h)
            have u2 : w6.cell? ⟨b2, 2, none⟩ = some (.slice Ar s5.l.length cr) := blk_cell hb6 2
            have u4 : w6.cell? ⟨b2, 4, none⟩ = some (.int .i64 s5.ops) := blk_cell hb6 4
            have u5 : w6.cell? ⟨b2, 5, none⟩ = some (.bool s5.dead) := blk_cell hb6 5
            have uc : (convert 22 9 (.slice Ar s5.l.length cr)).run Tryd.prog w6 = .ok (.string SL) w6 := by rw [HSL.out]; exact str_of (buf_reads (Buf.keep (w := wr.drew) HRO.out.buf hk6 (fun _ _ h => h)))
            have ud : (convert 22 9 (.slice A6 s5.l.length c6)).run Tryd.prog w6 = .ok (.string SL) w6 := by rw [HSL.out]; exact str_of (buf_reads hv6)
            have HT6 := Lib.hid hT6
            have HP6 := Lib.hid (show PlaysAt w b b2 s5 s5 F4 G5 w6 from ⟨hT6, hR6, HWP.out.1.dis⟩)
            clear hT6 hB6 hv6 hR6 hk6 hb6
            refine hK.out _ _ ?t0s7 (fun hHeld1 => ?t0q7)
            case t0s7 => (try dsimp only); exact ⟨u2, uc, u5, u4⟩
            clear hK K
            try simp only [Act.put, List.setIfInBounds_toArray, List.set_cons_zero, List.set_cons_succ]
            refine wpAnyH_mono (S' := (fun w' => (convert 22 9 (.slice A6 s5.l.length c6)).run Tryd.prog w' = .ok (.string SL) w' ∧ w'.cell? ⟨b2, 2, none⟩ = some (.slice Ar s5.l.length cr) ∧ (convert 22 9 (.slice Ar s5.l.length cr)).run Tryd.prog w' = .ok (.string SL) w' ∧ w'.cell? ⟨b2, 5, none⟩ = some (.bool s5.dead) ∧ w'.cell? ⟨b2, 4, none⟩ = some (.int .i64 s5.ops))) (fun _ h => h.2) ?_
            have hHeld2 := And.intro ud (And.intro u2 (And.intro uc (And.intro u5 u4)))
            refine wpAnyH_take (i := 2) (v := ?t0v8) (by simp only [List.getElem?_toArray, List.getElem?_cons_zero, List.getElem?_cons_succ]; rfl) (by kernel_rfl) (by kernel_rfl) (by kernel_rfl) (fun _ _ _ h => h) (Or.inl ⟨by rfl, ?t0h8⟩) hHeld2 ?t0q8
            case t0h8 => (intro w hSw; (try dsimp only at hSw); go_simp <;> with_reducible rfl)
            try simp only [Act.put, List.setIfInBounds_toArray, List.set_cons_zero, List.set_cons_succ]
            refine wpAnyH_take (i := 8) (v := ?t0v9) (by simp only [List.getElem?_toArray, List.getElem?_cons_zero, List.getElem?_cons_succ]; rfl) (by kernel_rfl) (by kernel_rfl) (by kernel_rfl) (fun _ _ _ h => h) (Or.inl ⟨by rfl, ?t0h9⟩) hHeld2 ?t0q9
            case t0h9 => (intro w hSw; (try dsimp only at hSw); go_simp <;> with_reducible rfl)
            try simp only [Act.put, List.setIfInBounds_toArray, List.set_cons_zero, List.set_cons_succ]
            refine wpAnyH_take (i := 9) (v := ?t0v10) (by simp only [List.getElem?_toArray, List.getElem?_cons_zero, List.getElem?_cons_succ]; rfl) (by kernel_rfl) (by kernel_rfl) (by kernel_rfl) (fun _ _ _ h => h) (Or.inl ⟨by rfl, ?t0h10⟩) hHeld2 ?t0q10
            case t0h10 => (intro w hSw; (try dsimp only at hSw); go_simp <;> with_reducible rfl)
            try simp only [Act.put, List.setIfInBounds_toArray, List.set_cons_zero, List.set_cons_succ]
            refine wpAnyH_take (i := 10) (v := ?t0v11) (by simp only [List.getElem?_toArray, List.getElem?_cons_zero, List.getElem?_cons_succ]; rfl) (by kernel_rfl) (by kernel_rfl) (by kernel_rfl) (fun _ _ _ h => h) (Or.inl ⟨by rfl, ?t0h11⟩) hHeld2 ?t0q11
            case t0h11 => (intro w hSw; (try dsimp only at hSw); go_simp <;> with_reducible rfl)
            try simp only [Act.put, List.setIfInBounds_toArray, List.set_cons_zero, List.set_cons_succ]
            refine wpAnyH_take (i := 12) (v := ?t0v12) (by simp only [List.getElem?_toArray, List.getElem?_cons_zero, List.getElem?_cons_succ]; rfl) (by kernel_rfl) (by kernel_rfl) (by kernel_rfl) (fun _ _ _ h => h) (Or.inl ⟨by rfl, ?t0h12⟩) hHeld2 ?t0q12
            case t0h12 => (intro w hSw; (try dsimp only at hSw); go_simp <;> with_reducible rfl)
            try simp only [Act.put, List.setIfInBounds_toArray, List.set_cons_zero, List.set_cons_succ]
            refine wpAnyH_take (i := 13) (v := ?t0v13) (by simp only [List.getElem?_toArray, List.getElem?_cons_zero, List.getElem?_cons_succ]; rfl) (by kernel_rfl) (by kernel_rfl) (by kernel_rfl) (fun _ _ _ h => h) (Or.inl ⟨by rfl, ?t0h13⟩) hHeld2 ?t0q13
            case t0h13 => (intro w hSw; (try dsimp only at hSw); go_simp <;> with_reducible rfl)
            try simp only [Act.put, List.setIfInBounds_toArray, List.set_cons_zero, List.set_cons_succ]
            refine wpAnyH_take (i := 14) (v := ?t0v14) (by simp only [List.getElem?_toArray, List.getElem?_cons_zero, List.getElem?_cons_succ]; rfl) (by kernel_rfl) (by kernel_rfl) (by kernel_rfl) (fun _ _ _ h => h) (Or.inl ⟨by rfl, ?t0h14⟩) hHeld2 ?t0q14
            case t0h14 => (intro w hSw; (try dsimp only at hSw); go_simp <;> with_reducible rfl)
            try simp only [Act.put, List.setIfInBounds_toArray, List.set_cons_zero, List.set_cons_succ]
            refine wpAnyH_take (i := 15) (v := ?t0v15) (by simp only [List.getElem?_toArray, List.getElem?_cons_zero, List.getElem?_cons_succ]; rfl) (by kernel_rfl) (by kernel_rfl) (by kernel_rfl) (fun _ _ _ h => h) (Or.inl ⟨by rfl, ?t0h15⟩) hHeld2 ?t0q15
            case t0h15 => (intro w hSw; (try dsimp only at hSw); go_simp <;> with_reducible rfl)
            try simp only [Act.put, List.setIfInBounds_toArray, List.set_cons_zero, List.set_cons_succ]
            refine wpAnyH_ready (rs := [11]) (by kernel_rfl) (by simp) ?_
            refine AllReadyH.cons (by simp only [List.getElem?_toArray, List.getElem?_cons_zero, List.getElem?_cons_succ]; rfl) (fun K hK => ?_) AllReadyH.nil
            go_simp
            go_at_call 23
            refine (dead_any w6 w.heap.size b F4 s5 HT6.out.at_).mono ?_
            rintro r w7 ⟨rfl, rfl⟩
            refine hK.out _ _ ?t0s16 (fun hHeld3 => ?t0q16)
            case t0s16 => (try dsimp only); exact ⟨ud, u2, uc, u5, u4⟩
            clear hK K
            try simp only [Act.put, List.setIfInBounds_toArray, List.set_cons_zero, List.set_cons_succ]
            refine wpAnyH_take (i := 16) (v := ?t0v17) (by simp only [List.getElem?_toArray, List.getElem?_cons_zero, List.getElem?_cons_succ]; rfl) (by kernel_rfl) (by kernel_rfl) (by kernel_rfl) (fun _ _ _ h => h) (Or.inl ⟨by rfl, ?t0h17⟩) hHeld3 ?t0q17
            case t0h17 => (intro w hSw; (try dsimp only at hSw); go_simp <;> with_reducible rfl)
            try simp only [Act.put, List.setIfInBounds_toArray, List.set_cons_zero, List.set_cons_succ]
            refine wpAnyH_take (i := 17) (v := ?t0v18) (by simp only [List.getElem?_toArray, List.getElem?_cons_zero, List.getElem?_cons_succ]; rfl) (by kernel_rfl) (by kernel_rfl) (by kernel_rfl) (fun _ _ _ h => h) (Or.inl ⟨by rfl, ?t0h18⟩) hHeld3 ?t0q18
            case t0h18 => (intro w hSw; (try dsimp only at hSw); go_simp <;> with_reducible rfl)
            try simp only [Act.put, List.setIfInBounds_toArray, List.set_cons_zero, List.set_cons_succ]
            refine wpAnyH_take (i := 18) (v := ?t0v19) (by simp only [List.getElem?_toArray, List.getElem?_cons_zero, List.getElem?_cons_succ]; rfl) (by kernel_rfl) (by kernel_rfl) (by kernel_rfl) (fun _ _ _ h => h) (Or.inl ⟨by rfl, ?t0h19⟩) hHeld3 ?t0q19
            case t0h19 => (intro w hSw; (try dsimp only at hSw); go_simp <;> with_reducible rfl)
            try simp only [Act.put, List.setIfInBounds_toArray, List.set_cons_zero, List.set_cons_succ]
            refine wpAnyH_take (i := 19) (v := ?t0v20) (by simp only [List.getElem?_toArray, List.getElem?_cons_zero, List.getElem?_cons_succ]; rfl) (by kernel_rfl) (by kernel_rfl) (by kernel_rfl) (fun _ _ _ h => h) (Or.inl ⟨by rfl, ?t0h20⟩) hHeld3 ?t0q20
            case t0h20 => (intro w hSw; (try dsimp only at hSw); go_simp <;> with_reducible rfl)
            try simp only [Act.put, List.setIfInBounds_toArray, List.set_cons_zero, List.set_cons_succ]
            refine wpAnyH_take (i := 21) (v := ?t0v21) (by simp only [List.getElem?_toArray, List.getElem?_cons_zero, List.getElem?_cons_succ]; rfl) (by kernel_rfl) (by kernel_rfl) (by kernel_rfl) (fun _ _ _ h => h) (Or.inl ⟨by rfl, ?t0h21⟩) hHeld3 ?t0q21
            case t0h21 => (intro w hSw; (try dsimp only at hSw); go_simp <;> with_reducible rfl)
            try simp only [Act.put, List.setIfInBounds_toArray, List.set_cons_zero, List.set_cons_succ]
            refine wpAnyH_take (i := 22) (v := ?t0v22) (by simp only [List.getElem?_toArray, List.getElem?_cons_zero, List.getElem?_cons_succ]; rfl) (by kernel_rfl) (by kernel_rfl) (by kernel_rfl) (fun _ _ _ h => h) (Or.inl ⟨by rfl, ?t0h22⟩) hHeld3 ?t0q22
            case t0h22 => (intro w hSw; (try dsimp only at hSw); go_simp <;> with_reducible rfl)
            try simp only [Act.put, List.setIfInBounds_toArray, List.set_cons_zero, List.set_cons_succ]
            refine wpAnyH_take (i := 23) (v := ?t0v23) (by simp only [List.getElem?_toArray, List.getElem?_cons_zero, List.getElem?_cons_succ]; rfl) (by kernel_rfl) (by kernel_rfl) (by kernel_rfl) (fun _ _ _ h => h) (Or.inl ⟨by rfl, ?t0h23⟩) hHeld3 ?t0q23
            case t0h23 => (intro w hSw; (try dsimp only at hSw); go_simp <;> with_reducible rfl)
            try simp only [Act.put, List.setIfInBounds_toArray, List.set_cons_zero, List.set_cons_succ]
            refine wpAnyH_take (i := 24) (v := ?t0v24) (by simp only [List.getElem?_toArray, List.getElem?_cons_zero, List.getElem?_cons_succ]; rfl) (by kernel_rfl) (by kernel_rfl) (by kernel_rfl) (fun _ _ _ h => h) (Or.inl ⟨by rfl, ?t0h24⟩) hHeld3 ?t0q24
            case t0h24 => (intro w hSw; (try dsimp only at hSw); go_simp <;> with_reducible rfl)
            try simp only [Act.put, List.setIfInBounds_toArray, List.set_cons_zero, List.set_cons_succ]
            refine wpAnyH_ready (rs := [20]) (by kernel_rfl) (by simp) ?_
            refine AllReadyH.cons (by simp only [List.getElem?_toArray, List.getElem?_cons_zero, List.getElem?_cons_succ]; rfl) (fun K hK => ?_) AllReadyH.nil
            go_simp
            go_at_call 24
            refine (ops_any w6 w.heap.size b F4 s5 HT6.out.at_).mono ?_
            rintro r w7 ⟨rfl, rfl⟩
            refine hK.out _ _ ?t0s25 (fun hHeld4 => ?t0q25)
            case t0s25 => (try dsimp only); exact ⟨ud, u2, uc, u5, u4⟩
            clear hK K
            try simp only [Act.put, List.setIfInBounds_toArray, List.set_cons_zero, List.set_cons_succ]
            refine wpAnyH_take (i := 25) (v := ?t0v26) (by simp only [List.getElem?_toArray, List.getElem?_cons_zero, List.getElem?_cons_succ]; rfl) (by kernel_rfl) (by kernel_rfl) (by kernel_rfl) (fun _ _ _ h => h) (Or.inl ⟨by rfl, ?t0h26⟩) hHeld4 ?t0q26
            case t0h26 => (intro w hSw; (try dsimp only at hSw); go_simp <;> with_reducible rfl)
            try simp only [Act.put, List.setIfInBounds_toArray, List.set_cons_zero, List.set_cons_succ]
            refine wpAnyH_take (i := 26) (v := ?t0v27) (by simp only [List.getElem?_toArray, List.getElem?_cons_zero, List.getElem?_cons_succ]; rfl) (by kernel_rfl) (by kernel_rfl) (by kernel_rfl) (fun _ _ _ h => h) (Or.inl ⟨by rfl, ?t0h27⟩) hHeld4 ?t0q27
            case t0h27 => (intro w hSw; (try dsimp only at hSw); go_simp <;> with_reducible rfl)
            try simp only [Act.put, List.setIfInBounds_toArray, List.set_cons_zero, List.set_cons_succ]
            refine wpAnyH_done (by kernel_rfl) ?_ _
            refine NoPanic.normal ?_
            go_wp2_with fail
            exact ⟨⟨k + 1, s5, F4, G5, by omega, by omega, by simp, HP6.out, hso0, by push_cast; omega⟩, by simp [intOf]; omega⟩
      · go_wp2_with (first
          | (at_builtin
             refine wpList_append_buf ((wr.alloc _).alloc (.cells #[] 5)) rfl _ _ 22 5 .u8 1 w.heap.size rfl Tryd.underlying22 info5 (by decide) (.slice (some ⟨wr.heap.size + 1, 0, none⟩) 0 0) [] x.b Bx x.b.length cx ?st11 ?st12 HLB.out HRA.out hbwA hblA ?st13
             case st11 => rfl
             case st12 => rfl
             intro v3 w3 hv hg hat
             rw [List.nil_append] at hv
             have hM := HMA.out v3 w3 hv hg hat
             obtain ⟨Aa, ca, rfl⟩ := hv.slice
             have qk : w3.cell? ⟨wr.heap.size, 0, none⟩ = some (.int .i64 x.kd) := blk_cell hM.box 0
             have qn : w3.cell? ⟨wr.heap.size, 1, none⟩ = some (.int .i64 x.n) := blk_cell hM.box 1
             have qb : w3.cell? ⟨wr.heap.size, 2, none⟩ = some (.slice Bx x.b.length cx) := blk_cell hM.box 2
             have HM := Lib.hid hM
             clear hv hg hat hM HLB HRA HMA hbwA hblA q0 q1 q2
             generalize wr.heap.size = pc at *)
          | (go_at_call 14; refine (within_any x.kd 5 w3 (by decide) (by decide)).mono ?_; rintro e w2 ⟨rfl, rfl⟩; rw [hkd]))
        go_wp2_with (first
          | (go_at_call 11; refine (sync_in w w3 b F s HM.out.pl.tp (by omega)).mono ?_; rintro r w4 ⟨rfl, hT⟩; obtain ⟨F4, hM4⟩ := HM.out.tape hT; have cn4 : w4.cell? ⟨pc, 1, none⟩ = some (.int .i64 x.n) := box1 hM4.box; have HM4 := Lib.hid hM4; clear hT hM4)
          | (go_at_call 19; refine (rsync_any w4 w.heap.size b2 G s HOK.out HM4.out.pl.rf).mono ?_; rintro r w5 ⟨rfl, hR⟩; obtain ⟨G5, hM5⟩ := HM4.out.ref hR; have HM5 := Lib.hid hM5; clear hR hM5))
        have hops := ops_sync s
        have HM5q := HM5
        have hso0 := (HM5.out.pl.tp.ok).ops0
        generalize (syncS s) = s5 at HM5 HM5q hso0 hops
        clear HM5q
        have HW0 := Lib.hid HM5.out.wiped
        go_wp2_with fail
        go_loopw [12] (fun kv wr => ∃ (j : Nat), j ≤ x.b.length ∧ kv = .int .i64 (j : Int) ∧ WipedA w b b2 s5 F4 G5 wr Aa x.b.length) (fun kv _ => x.b.length - (intOf kv).toNat)
        case atStart => exact ⟨0, by omega, rfl, HW0.out⟩
        case round =>
          obtain ⟨j, hj, rfl, hwp⟩ := hrel
          have HWP := Lib.hid hwp
          clear hwp
          by_cases hjl : (j : Int) < (x.b.length : Int)
          · obtain ⟨g, rfl, hwd⟩ := HWP.out.2 (by omega)
            obtain ⟨cur, hg1, hg2⟩ := hwd.row
            have hj0 : (0 : Int) ≤ (j : Int) := by omega
            obtain ⟨u, hcu⟩ : ∃ u, wr.cell? ⟨g, j, none⟩ = some u := ⟨_, by rw [cell_of_row _ g j _ _ _ hg1]; exact Array.getElem?_eq_getElem (by omega)⟩
            have hfz : wr.frozen? ⟨g, j, none⟩ = false := blk_frozen hg1 j
            have HWD := Lib.hid (hwd.store j (.int .u8 238))
            clear hwd
            go_wp2
            exact ⟨⟨j + 1, by omega, by simp, HWD.out.pl, fun _ => ⟨g, rfl, HWD.out⟩⟩, by simp [intOf]; omega⟩
          · obtain ⟨Ar, cr, hro⟩ := HWP.out.1.rf.open_
            have r2 : wr.drew.cell? ⟨b2, 2, none⟩ = some (.slice Ar s5.l.length cr) := blk_cell hro.blk 2
            have r4 : wr.drew.cell? ⟨b2, 4, none⟩ = some (.int .i64 s5.ops) := blk_cell hro.blk 4
            have r5 : wr.drew.cell? ⟨b2, 5, none⟩ = some (.bool s5.dead) := blk_cell hro.blk 5
            obtain ⟨SL, hSL⟩ : ∃ z, z = strOfNums s5.l := ⟨_, rfl⟩
            have rc : (convert 22 9 (.slice Ar s5.l.length cr)).run Tryd.prog wr.drew = .ok (.string SL) wr.drew := by rw [hSL]; exact str_of (W := wr.drew) (buf_reads hro.buf)
            have heS : (SL.toList == SL.toList) = true := by simp
            have HSL := Lib.hid hSL
            have HRO := Lib.hid hro
            have HTD := Lib.hid (show TapeIn w b s5 wr.drew F4 from ⟨HWP.out.1.tp.at_, HWP.out.1.tp.below.drew, HWP.out.1.tp.laid, HWP.out.1.tp.ok⟩)
            have HRD := Lib.hid (show RefAt wr.drew w.heap.size G5 b2 s5 from HWP.out.1.rf)
            have hjd : decide ((j : Int) < (x.b.length : Int)) = false := by simp; omega
            clear hSL hro
            go_wp2_with fail
            refine wp_region_noPanic ?_
            refine wp_region_held_drew (S := (fun w' => w'.cell? ⟨b2, 2, none⟩ = some (.slice Ar s5.l.length cr) ∧ (convert 22 9 (.slice Ar s5.l.length cr)).run Tryd.prog w' = .ok (.string SL) w' ∧ w'.cell? ⟨b2, 5, none⟩ = some (.bool s5.dead) ∧ w'.cell? ⟨b2, 4, none⟩ = some (.int .i64 s5.ops))) (by kernel_rfl) ?t1s0 (fun hHeld0 => ?t1r0)
            case t1s0 => (try dsimp only); exact ⟨r2, rc, r5, r4⟩
            refine wpAnyH_take (i := 0) (v := ?t1v1) (by simp only [List.getElem?_toArray, List.getElem?_cons_zero, List.getElem?_cons_succ]; rfl) (by kernel_rfl) (by kernel_rfl) (by kernel_rfl) (fun _ _ _ h => h) (Or.inl ⟨by rfl, ?t1h1⟩) hHeld0 ?t1q1
            case t1h1 => (intro w hSw; (try dsimp only at hSw); go_simp <;> with_reducible rfl)
            try simp only [Act.put, List.setIfInBounds_toArray, List.set_cons_zero, List.set_cons_succ]
            refine wpAnyH_take (i := 3) (v := ?t1v2) (by simp only [List.getElem?_toArray, List.getElem?_cons_zero, List.getElem?_cons_succ]; rfl) (by kernel_rfl) (by kernel_rfl) (by kernel_rfl) (fun _ _ _ h => h) (Or.inl ⟨by rfl, ?t1h2⟩) hHeld0 ?t1q2
            case t1h2 => (intro w hSw; (try dsimp only at hSw); go_simp <;> with_reducible rfl)
            try simp only [Act.put, List.setIfInBounds_toArray, List.set_cons_zero, List.set_cons_succ]
            refine wpAnyH_take (i := 4) (v := ?t1v3) (by simp only [List.getElem?_toArray, List.getElem?_cons_zero, List.getElem?_cons_succ]; rfl) (by kernel_rfl) (by kernel_rfl) (by kernel_rfl) (fun _ _ _ h => h) (Or.inl ⟨by rfl, ?t1h3⟩) hHeld0 ?t1q3
            case t1h3 => (intro w hSw; (try dsimp only at hSw); go_simp <;> with_reducible rfl)
            try simp only [Act.put, List.setIfInBounds_toArray, List.set_cons_zero, List.set_cons_succ]
            refine wpAnyH_take (i := 5) (v := ?t1v4) (by simp only [List.getElem?_toArray, List.getElem?_cons_zero, List.getElem?_cons_succ]; rfl) (by kernel_rfl) (by kernel_rfl) (by kernel_rfl) (fun _ _ _ h => h) (Or.inl ⟨by rfl, ?t1h4⟩) hHeld0 ?t1q4
            case t1h4 => (intro w hSw; (try dsimp only at hSw); go_simp <;> with_reducible rfl)
            try simp only [Act.put, List.setIfInBounds_toArray, List.set_cons_zero, List.set_cons_succ]
            refine wpAnyH_take (i := 6) (v := ?t1v5) (by simp only [List.getElem?_toArray, List.getElem?_cons_zero, List.getElem?_cons_succ]; rfl) (by kernel_rfl) (by kernel_rfl) (by kernel_rfl) (fun _ _ _ h => h) (Or.inl ⟨by rfl, ?t1h5⟩) hHeld0 ?t1q5
            case t1h5 => (intro w hSw; (try dsimp only at hSw); go_simp <;> with_reducible rfl)
            try simp only [Act.put, List.setIfInBounds_toArray, List.set_cons_zero, List.set_cons_succ]
            refine wpAnyH_take (i := 7) (v := ?t1v6) (by simp only [List.getElem?_toArray, List.getElem?_cons_zero, List.getElem?_cons_succ]; rfl) (by kernel_rfl) (by kernel_rfl) (by kernel_rfl) (fun _ _ _ h => h) (Or.inl ⟨by rfl, ?t1h6⟩) hHeld0 ?t1q6
            case t1h6 => (intro w hSw; (try dsimp only at hSw); go_simp <;> with_reducible rfl)
            try simp only [Act.put, List.setIfInBounds_toArray, List.set_cons_zero, List.set_cons_succ]
            refine wpAnyH_ready (rs := [1]) (by kernel_rfl) (by simp) ?_
            refine AllReadyH.cons (by simp only [List.getElem?_toArray, List.getElem?_cons_zero, List.getElem?_cons_succ]; rfl) (fun K hK => ?_) AllReadyH.nil
            go_simp
            go_at_call 13
            refine (bytes_in w wr.drew b F4 s5 HTD.out).mono ?_
            rintro r w6 ⟨A6, c6, rfl, hT6, hB6, hv6⟩
            have hR6 := HRD.out.below hB6
            have hk6 := Keep.of_below hB6 (fun _ => False)
            have hb6 := hk6.blk (show wr.drew.heap[b2]? = some _ from HRO.out.blk) (fun h => h)
            have u2 : w6.cell? ⟨b2, 2, none⟩ = some (.slice Ar s5.l.length cr) := blk_cell hb6 2
            have u4 : w6.cell? ⟨b2, 4, none⟩ = some (.int .i64 s5.ops) := blk_cell hb6 4
            have u5 : w6.cell? ⟨b2, 5, none⟩ = some (.bool s5.dead) := blk_cell hb6 5
            have uc : (convert 22 9 (.slice Ar s5.l.length cr)).run Tryd.prog w6 = .ok (.string SL) w6 := by rw [HSL.out]; exact str_of (buf_reads (Buf.keep (w := wr.drew) HRO.out.buf hk6 (fun _ _ h => h)))
            have ud : (convert 22 9 (.slice A6 s5.l.length c6)).run Tryd.prog w6 = .ok (.string SL) w6 := by rw [HSL.out]; exact str_of (buf_reads hv6)
            have HT6 := Lib.hid hT6
            have HP6 := Lib.hid (show PlaysAt w b b2 s5 s5 F4 G5 w6 from ⟨hT6, hR6, HWP.out.1.dis⟩)
            clear hT6 hB6 hv6 hR6 hk6 hb6
            refine hK.out _ _ ?t1s7 (fun hHeld1 => ?t1q7)
            case t1s7 => (try dsimp only); exact ⟨u2, uc, u5, u4⟩
            clear hK K
            try simp only [Act.put, List.setIfInBounds_toArray, List.set_cons_zero, List.set_cons_succ]
            refine wpAnyH_mono (S' := (fun w' => (convert 22 9 (.slice A6 s5.l.length c6)).run Tryd.prog w' = .ok (.string SL) w' ∧ w'.cell? ⟨b2, 2, none⟩ = some (.slice Ar s5.l.length cr) ∧ (convert 22 9 (.slice Ar s5.l.length cr)).run Tryd.prog w' = .ok (.string SL) w' ∧ w'.cell? ⟨b2, 5, none⟩ = some (.bool s5.dead) ∧ w'.cell? ⟨b2, 4, none⟩ = some (.int .i64 s5.ops))) (fun _ h => h.2) ?_
            have hHeld2 := And.intro ud (And.intro u2 (And.intro uc (And.intro u5 u4)))
            refine wpAnyH_take (i := 2) (v := ?t1v8) (by simp only [List.getElem?_toArray, List.getElem?_cons_zero, List.getElem?_cons_succ]; rfl) (by kernel_rfl) (by kernel_rfl) (by kernel_rfl) (fun _ _ _ h => h) (Or.inl ⟨by rfl, ?t1h8⟩) hHeld2 ?t1q8
            case t1h8 => (intro w hSw; (try dsimp only at hSw); go_simp <;> with_reducible rfl)
            try simp only [Act.put, List.setIfInBounds_toArray, List.set_cons_zero, List.set_cons_succ]
            refine wpAnyH_take (i := 8) (v := ?t1v9) (by simp only [List.getElem?_toArray, List.getElem?_cons_zero, List.getElem?_cons_succ]; rfl) (by kernel_rfl) (by kernel_rfl) (by kernel_rfl) (fun _ _ _ h => h) (Or.inl ⟨by rfl, ?t1h9⟩) hHeld2 ?t1q9
            case t1h9 => (intro w hSw; (try dsimp only at hSw); go_simp <;> with_reducible rfl)
            try simp only [Act.put, List.setIfInBounds_toArray, List.set_cons_zero, List.set_cons_succ]
            refine wpAnyH_take (i := 9) (v := ?t1v10) (by simp only [List.getElem?_toArray, List.getElem?_cons_zero, List.getElem?_cons_succ]; rfl) (by kernel_rfl) (by kernel_rfl) (by kernel_rfl) (fun _ _ _ h => h) (Or.inl ⟨by rfl, ?t1h10⟩) hHeld2 ?t1q10
            case t1h10 => (intro w hSw; (try dsimp only at hSw); go_simp <;> with_reducible rfl)
            try simp only [Act.put, List.setIfInBounds_toArray, List.set_cons_zero, List.set_cons_succ]
            refine wpAnyH_take (i := 10) (v := ?t1v11) (by simp only [List.getElem?_toArray, List.getElem?_cons_zero, List.getElem?_cons_succ]; rfl) (by kernel_rfl) (by kernel_rfl) (by kernel_rfl) (fun _ _ _ h => h) (Or.inl ⟨by rfl, ?t1h11⟩) hHeld2 ?t1q11
            case t1h11 => (intro w hSw; (try dsimp only at hSw); go_simp <;> with_reducible rfl)
            try simp only [Act.put, List.setIfInBounds_toArray, List.set_cons_zero, List.set_cons_succ]
            refine wpAnyH_take (i := 12) (v := ?t1v12) (by simp only [List.getElem?_toArray, List.getElem?_cons_zero, List.getElem?_cons_succ]; rfl) (by kernel_rfl) (by kernel_rfl) (by kernel_rfl) (fun _ _ _ h => h) (Or.inl ⟨by rfl, ?t1h12⟩) hHeld2 ?t1q12
            case t1h12 => (intro w hSw; (try dsimp only at hSw); go_simp <;> with_reducible rfl)
            try simp only [Act.put, List.setIfInBounds_toArray, List.set_cons_zero, List.set_cons_succ]
            refine wpAnyH_take (i := 13) (v := ?t1v13) (by simp only [List.getElem?_toArray, List.getElem?_cons_zero, List.getElem?_cons_succ]; rfl) (by kernel_rfl) (by kernel_rfl) (by kernel_rfl) (fun _ _ _ h => h) (Or.inl ⟨by rfl, ?t1h13⟩) hHeld2 ?t1q13
            case t1h13 => (intro w hSw; (try dsimp only at hSw); go_simp <;> with_reducible rfl)
            try simp only [Act.put, List.setIfInBounds_toArray, List.set_cons_zero, List.set_cons_succ]
            refine wpAnyH_take (i := 14) (v := ?t1v14) (by simp only [List.getElem?_toArray, List.getElem?_cons_zero, List.getElem?_cons_succ]; rfl) (by kernel_rfl) (by kernel_rfl) (by kernel_rfl) (fun _ _ _ h => h) (Or.inl ⟨by rfl, ?t1h14⟩) hHeld2 ?t1q14
            case t1h14 => (intro w hSw; (try dsimp only at hSw); go_simp <;> with_reducible rfl)
            try simp only [Act.put, List.setIfInBounds_toArray, List.set_cons_zero, List.set_cons_succ]
            refine wpAnyH_take (i := 15) (v := ?t1v15) (by simp only [List.getElem?_toArray, List.getElem?_cons_zero, List.getElem?_cons_succ]; rfl) (by kernel_rfl) (by kernel_rfl) (by kernel_rfl) (fun _ _ _ h => h) (Or.inl ⟨by rfl, ?t1h15⟩) hHeld2 ?t1q15
            case t1h15 => (intro w hSw; (try dsimp only at hSw); go_simp <;> with_reducible rfl)
            try simp only [Act.put, List.setIfInBounds_toArray, List.set_cons_zero, List.set_cons_succ]
            refine wpAnyH_ready (rs := [11]) (by kernel_rfl) (by simp) ?_
            refine AllReadyH.cons (by simp only [List.getElem?_toArray, List.getElem?_cons_zero, List.getElem?_cons_succ]; rfl) (fun K hK => ?_) AllReadyH.nil
            go_simp
            go_at_call 23
            refine (dead_any w6 w.heap.size b F4 s5 HT6.out.at_).mono ?_
            rintro r w7 ⟨rfl, rfl⟩
            refine hK.out _ _ ?t1s16 (fun hHeld3 => ?t1q16)
            case t1s16 => (try dsimp only); exact ⟨ud, u2, uc, u5, u4⟩
            clear hK K
            try simp only [Act.put, List.setIfInBounds_toArray, List.set_cons_zero, List.set_cons_succ]
            refine wpAnyH_take (i := 16) (v := ?t1v17) (by simp only [List.getElem?_toArray, List.getElem?_cons_zero, List.getElem?_cons_succ]; rfl) (by kernel_rfl) (by kernel_rfl) (by kernel_rfl) (fun _ _ _ h => h) (Or.inl ⟨by rfl, ?t1h17⟩) hHeld3 ?t1q17
            case t1h17 => (intro w hSw; (try dsimp only at hSw); go_simp <;> with_reducible rfl)
            try simp only [Act.put, List.setIfInBounds_toArray, List.set_cons_zero, List.set_cons_succ]
            refine wpAnyH_take (i := 17) (v := ?t1v18) (by simp only [List.getElem?_toArray, List.getElem?_cons_zero, List.getElem?_cons_succ]; rfl) (by kernel_rfl) (by kernel_rfl) (by kernel_rfl) (fun _ _ _ h => h) (Or.inl ⟨by rfl, ?t1h18⟩) hHeld3 ?t1q18
            case t1h18 => (intro w hSw; (try dsimp only at hSw); go_simp <;> with_reducible rfl)
            try simp only [Act.put, List.setIfInBounds_toArray, List.set_cons_zero, List.set_cons_succ]
            refine wpAnyH_take (i := 18) (v := ?t1v19) (by simp only [List.getElem?_toArray, List.getElem?_cons_zero, List.getElem?_cons_succ]; rfl) (by kernel_rfl) (by kernel_rfl) (by kernel_rfl) (fun _ _ _ h => h) (Or.inl ⟨by rfl, ?t1h19⟩) hHeld3 ?t1q19
            case t1h19 => (intro w hSw; (try dsimp only at hSw); go_simp <;> with_reducible rfl)
            try simp only [Act.put, List.setIfInBounds_toArray, List.set_cons_zero, List.set_cons_succ]
            refine wpAnyH_take (i := 19) (v := ?t1v20) (by simp only [List.getElem?_toArray, List.getElem?_cons_zero, List.getElem?_cons_succ]; rfl) (by kernel_rfl) (by kernel_rfl) (by kernel_rfl) (fun _ _ _ h => h) (Or.inl ⟨by rfl, ?t1h20⟩) hHeld3 ?t1q20
            case t1h20 => (intro w hSw; (try dsimp only at hSw); go_simp <;> with_reducible rfl)
            try simp only [Act.put, List.setIfInBounds_toArray, List.set_cons_zero, List.set_cons_succ]
            refine wpAnyH_take (i := 21) (v := ?t1v21) (by simp only [List.getElem?_toArray, List.getElem?_cons_zero, List.getElem?_cons_succ]; rfl) (by kernel_rfl) (by kernel_rfl) (by kernel_rfl) (fun _ _ _ h => h) (Or.inl ⟨by rfl, ?t1h21⟩) hHeld3 ?t1q21
            case t1h21 => (intro w hSw; (try dsimp only at hSw); go_simp <;> with_reducible rfl)
            try simp only [Act.put, List.setIfInBounds_toArray, List.set_cons_zero, List.set_cons_succ]
            refine wpAnyH_take (i := 22) (v := ?t1v22) (by simp only [List.getElem?_toArray, List.getElem?_cons_zero, List.getElem?_cons_succ]; rfl) (by kernel_rfl) (by kernel_rfl) (by kernel_rfl) (fun _ _ _ h => h) (Or.inl ⟨by rfl, ?t1h22⟩) hHeld3 ?t1q22
            case t1h22 => (intro w hSw; (try dsimp only at hSw); go_simp <;> with_reducible rfl)
            try simp only [Act.put, List.setIfInBounds_toArray, List.set_cons_zero, List.set_cons_succ]
            refine wpAnyH_take (i := 23) (v := ?t1v23) (by simp only [List.getElem?_toArray, List.getElem?_cons_zero, List.getElem?_cons_succ]; rfl) (by kernel_rfl) (by kernel_rfl) (by kernel_rfl) (fun _ _ _ h => h) (Or.inl ⟨by rfl, ?t1h23⟩) hHeld3 ?t1q23
            case t1h23 => (intro w hSw; (try dsimp only at hSw); go_simp <;> with_reducible rfl)
            try simp only [Act.put, List.setIfInBounds_toArray, List.set_cons_zero, List.set_cons_succ]
            refine wpAnyH_take (i := 24) (v := ?t1v24) (by simp only [List.getElem?_toArray, List.getElem?_cons_zero, List.getElem?_cons_succ]; rfl) (by kernel_rfl) (by kernel_rfl) (by kernel_rfl) (fun _ _ _ h => h) (Or.inl ⟨by rfl, ?t1h24⟩) hHeld3 ?t1q24
            case t1h24 => (intro w hSw; (try dsimp only at hSw); go_simp <;> with_reducible rfl)
            try simp only [Act.put, List.setIfInBounds_toArray, List.set_cons_zero, List.set_cons_succ]
            refine wpAnyH_ready (rs := [20]) (by kernel_rfl) (by simp) ?_
            refine AllReadyH.cons (by simp only [List.getElem?_toArray, List.getElem?_cons_zero, List.getElem?_cons_succ]; rfl) (fun K hK => ?_) AllReadyH.nil
            go_simp
            go_at_call 24
            refine (ops_any w6 w.heap.size b F4 s5 HT6.out.at_).mono ?_
            rintro r w7 ⟨rfl, rfl⟩
            refine hK.out _ _ ?t1s25 (fun hHeld4 => ?t1q25)
            case t1s25 => (try dsimp only); exact ⟨ud, u2, uc, u5, u4⟩
            clear hK K
            try simp only [Act.put, List.setIfInBounds_toArray, List.set_cons_zero, List.set_cons_succ]
            refine wpAnyH_take (i := 25) (v := ?t1v26) (by simp only [List.getElem?_toArray, List.getElem?_cons_zero, List.getElem?_cons_succ]; rfl) (by kernel_rfl) (by kernel_rfl) (by kernel_rfl) (fun _ _ _ h => h) (Or.inl ⟨by rfl, ?t1h26⟩) hHeld4 ?t1q26
            case t1h26 => (intro w hSw; (try dsimp only at hSw); go_simp <;> with_reducible rfl)
            try simp only [Act.put, List.setIfInBounds_toArray, List.set_cons_zero, List.set_cons_succ]
            refine wpAnyH_take (i := 26) (v := ?t1v27) (by simp only [List.getElem?_toArray, List.getElem?_cons_zero, List.getElem?_cons_succ]; rfl) (by kernel_rfl) (by kernel_rfl) (by kernel_rfl) (fun _ _ _ h => h) (Or.inl ⟨by rfl, ?t1h27⟩) hHeld4 ?t1q27
            case t1h27 => (intro w hSw; (try dsimp only at hSw); go_simp <;> with_reducible rfl)
            try simp only [Act.put, List.setIfInBounds_toArray, List.set_cons_zero, List.set_cons_succ]
            refine wpAnyH_done (by kernel_rfl) ?_ _
            refine NoPanic.normal ?_
            go_wp2_with fail
            exact ⟨⟨k + 1, s5, F4, G5, by omega, by omega, by simp, HP6.out, hso0, by push_cast; omega⟩, by simp [intOf]; omega⟩
      · go_wp2_with (first
          | (at_builtin
             refine wpList_append_buf ((wr.alloc _).alloc (.cells #[] 5)) rfl _ _ 22 5 .u8 1 w.heap.size rfl Tryd.underlying22 info5 (by decide) (.slice (some ⟨wr.heap.size + 1, 0, none⟩) 0 0) [] x.b Bx x.b.length cx ?st21 ?st22 HLB.out HRA.out hbwA hblA ?st23
             case st21 => rfl
             case st22 => rfl
             intro v3 w3 hv hg hat
             rw [List.nil_append] at hv
             have hM := HMA.out v3 w3 hv hg hat
             obtain ⟨Aa, ca, rfl⟩ := hv.slice
             have qk : w3.cell? ⟨wr.heap.size, 0, none⟩ = some (.int .i64 x.kd) := blk_cell hM.box 0
             have qn : w3.cell? ⟨wr.heap.size, 1, none⟩ = some (.int .i64 x.n) := blk_cell hM.box 1
             have qb : w3.cell? ⟨wr.heap.size, 2, none⟩ = some (.slice Bx x.b.length cx) := blk_cell hM.box 2
             have HM := Lib.hid hM
             clear hv hg hat hM HLB HRA HMA hbwA hblA q0 q1 q2
             generalize wr.heap.size = pc at *)
          | (go_at_call 14; refine (within_any x.kd 5 w3 (by decide) (by decide)).mono ?_; rintro e w2 ⟨rfl, rfl⟩; rw [hkd]))
        have HMD := Lib.hid HM.out.drew
        refine wp_region_noPanic ?_
        refine wp_region_held_drew (S := (fun w' => w'.cell? ⟨pc, 2, none⟩ = some (.slice Bx x.b.length cx))) (by kernel_rfl) ?kcs0 (fun hHeld0 => ?kcr0)
        case kcs0 => (try dsimp only); exact (box2 HMD.out.box)
        refine wpAnyH_take (i := 0) (v := ?kcv1) (by simp only [List.getElem?_toArray, List.getElem?_cons_zero, List.getElem?_cons_succ]; rfl) (by kernel_rfl) (by kernel_rfl) (by kernel_rfl) (fun _ _ _ h => h) (Or.inl ⟨by rfl, ?kch1⟩) hHeld0 ?kcq1
        case kch1 => (intro w hSw; (try dsimp only at hSw); go_simp <;> with_reducible rfl)
        try simp only [Act.put, List.setIfInBounds_toArray, List.set_cons_zero, List.set_cons_succ]
        refine wpAnyH_take (i := 1) (v := ?kcv2) (by simp only [List.getElem?_toArray, List.getElem?_cons_zero, List.getElem?_cons_succ]; rfl) (by kernel_rfl) (by kernel_rfl) (by kernel_rfl) (fun _ _ _ h => h) (Or.inl ⟨by rfl, ?kch2⟩) hHeld0 ?kcq2
        case kch2 => (intro w hSw; (try dsimp only at hSw); go_simp <;> with_reducible rfl)
        try simp only [Act.put, List.setIfInBounds_toArray, List.set_cons_zero, List.set_cons_succ]
        refine wpAnyH_take (i := 3) (v := ?kcv3) (by simp only [List.getElem?_toArray, List.getElem?_cons_zero, List.getElem?_cons_succ]; rfl) (by kernel_rfl) (by kernel_rfl) (by kernel_rfl) (fun _ _ _ h => h) (Or.inl ⟨by rfl, ?kch3⟩) hHeld0 ?kcq3
        case kch3 => (intro w hSw; (try dsimp only at hSw); go_simp <;> with_reducible rfl)
        try simp only [Act.put, List.setIfInBounds_toArray, List.set_cons_zero, List.set_cons_succ]
        refine wpAnyH_take (i := 4) (v := ?kcv4) (by simp only [List.getElem?_toArray, List.getElem?_cons_zero, List.getElem?_cons_succ]; rfl) (by kernel_rfl) (by kernel_rfl) (by kernel_rfl) (fun _ _ _ h => h) (Or.inl ⟨by rfl, ?kch4⟩) hHeld0 ?kcq4
        case kch4 => (intro w hSw; (try dsimp only at hSw); go_simp <;> with_reducible rfl)
        try simp only [Act.put, List.setIfInBounds_toArray, List.set_cons_zero, List.set_cons_succ]
        refine wpAnyH_take (i := 5) (v := ?kcv5) (by simp only [List.getElem?_toArray, List.getElem?_cons_zero, List.getElem?_cons_succ]; rfl) (by kernel_rfl) (by kernel_rfl) (by kernel_rfl) (fun _ _ _ h => h) (Or.inl ⟨by rfl, ?kch5⟩) hHeld0 ?kcq5
        case kch5 => (intro w hSw; (try dsimp only at hSw); go_simp <;> with_reducible rfl)
        try simp only [Act.put, List.setIfInBounds_toArray, List.set_cons_zero, List.set_cons_succ]
        refine wpAnyH_ready (rs := [2]) (by kernel_rfl) (by simp) ?_
        refine AllReadyH.cons (by simp only [List.getElem?_toArray, List.getElem?_cons_zero, List.getElem?_cons_succ]; rfl) (fun K hK => ?_) AllReadyH.nil
        go_simp
        go_at_call 15
        refine (replace_in Aa ca x.b w w3.drew b F s HMD.out.pl.tp (by omega) HMD.out.reads HMD.out.away).mono ?_
        rintro r w4 ⟨rfl, hT⟩
        obtain ⟨F4, hM4⟩ := HMD.out.tape hT
        have HM4 := Lib.hid hM4
        clear hT hM4
        refine hK.out _ _ ?kcs6 (fun hHeld1 => ?kcq6)
        case kcs6 => (try dsimp only); exact (box2 HM4.out.box)
        clear hK K
        try simp only [Act.put, List.setIfInBounds_toArray, List.set_cons_zero, List.set_cons_succ]
        refine wpAnyH_ready (rs := [6]) (by kernel_rfl) (by simp) ?_
        refine AllReadyH.cons (by simp only [List.getElem?_toArray, List.getElem?_cons_zero, List.getElem?_cons_succ]; rfl) (fun K hK => ?_) AllReadyH.nil
        go_simp
        go_at_call 20
        refine (rreplace_any Bx cx x.b w4 w.heap.size b2 G s HOK.out HM4.out.pl.rf (HBX.out.below HM4.out.pl.tp.below) (away2 HM4.out.pl HBX.out) (by omega)).mono ?_
        rintro r w5 ⟨rfl, hR⟩
        obtain ⟨G5, hM5⟩ := HM4.out.ref hR
        have HM5 := Lib.hid hM5
        clear hR hM5
        refine hK.out _ _ ?kcs7 (fun hHeld2 => ?kcq7)
        case kcs7 => (try dsimp only); exact (box2 HM5.out.box)
        clear hK K
        try simp only [Act.put, List.setIfInBounds_toArray, List.set_cons_zero, List.set_cons_succ]
        refine wpAnyH_take (i := 7) (v := ?kcv8) (by simp only [List.getElem?_toArray, List.getElem?_cons_zero, List.getElem?_cons_succ]; rfl) (by kernel_rfl) (by kernel_rfl) (by kernel_rfl) (fun _ _ _ h => h) (Or.inl ⟨by rfl, ?kch8⟩) hHeld2 ?kcq8
        case kch8 => (intro w hSw; (try dsimp only at hSw); go_simp <;> with_reducible rfl)
        try simp only [Act.put, List.setIfInBounds_toArray, List.set_cons_zero, List.set_cons_succ]
        refine wpAnyH_done (by kernel_rfl) ?_ _
        refine NoPanic.normal ?_
        have hops := ops_replace s x.b
        have HM5q := HM5
        have hso0 := (HM5.out.pl.tp.ok).ops0
        generalize (replaceS s x.b) = s5 at HM5 HM5q hso0 hops
        clear HM5q
        have HW0 := Lib.hid HM5.out.wiped
        go_wp2_with fail
        go_loopw [12] (fun kv wr => ∃ (j : Nat), j ≤ x.b.length ∧ kv = .int .i64 (j : Int) ∧ WipedA w b b2 s5 F4 G5 wr Aa x.b.length) (fun kv _ => x.b.length - (intOf kv).toNat)
        case atStart => exact ⟨0, by omega, rfl, HW0.out⟩
        case round =>
          obtain ⟨j, hj, rfl, hwp⟩ := hrel
          have HWP := Lib.hid hwp
          clear hwp
          by_cases hjl : (j : Int) < (x.b.length : Int)
          · obtain ⟨g, rfl, hwd⟩ := HWP.out.2 (by omega)
            obtain ⟨cur, hg1, hg2⟩ := hwd.row
            have hj0 : (0 : Int) ≤ (j : Int) := by omega
            obtain ⟨u, hcu⟩ : ∃ u, wr.cell? ⟨g, j, none⟩ = some u := ⟨_, by rw [cell_of_row _ g j _ _ _ hg1]; exact Array.getElem?_eq_getElem (by omega)⟩
            have hfz : wr.frozen? ⟨g, j, none⟩ = false := blk_frozen hg1 j
            have HWD := Lib.hid (hwd.store j (.int .u8 238))
            clear hwd
            go_wp2
            exact ⟨⟨j + 1, by omega, by simp, HWD.out.pl, fun _ => ⟨g, rfl, HWD.out⟩⟩, by simp [intOf]; omega⟩
          · obtain ⟨Ar, cr, hro⟩ := HWP.out.1.rf.open_
            have r2 : wr.drew.cell? ⟨b2, 2, none⟩ = some (.slice Ar s5.l.length cr) := blk_cell hro.blk 2
            have r4 : wr.drew.cell? ⟨b2, 4, none⟩ = some (.int .i64 s5.ops) := blk_cell hro.blk 4
            have r5 : wr.drew.cell? ⟨b2, 5, none⟩ = some (.bool s5.dead) := blk_cell hro.blk 5
            obtain ⟨SL, hSL⟩ : ∃ z, z = strOfNums s5.l := ⟨_, rfl⟩
            have rc : (convert 22 9 (.slice Ar s5.l.length cr)).run Tryd.prog wr.drew = .ok (.string SL) wr.drew := by rw [hSL]; exact str_of (W := wr.drew) (buf_reads hro.buf)
            have heS : (SL.toList == SL.toList) = true := by simp
            have HSL := Lib.hid hSL
            have HRO := Lib.hid hro
            have HTD := Lib.hid (show TapeIn w b s5 wr.drew F4 from ⟨HWP.out.1.tp.at_, HWP.out.1.tp.below.drew, HWP.out.1.tp.laid, HWP.out.1.tp.ok⟩)
            have HRD := Lib.hid (show RefAt wr.drew w.heap.size G5 b2 s5 from HWP.out.1.rf)
            have hjd : decide ((j : Int) < (x.b.length : Int)) = false := by simp; omega
            clear hSL hro
            go_wp2_with fail
            refine wp_region_noPanic ?_
            refine wp_region_held_drew (S := (fun w' => w'.cell? ⟨b2, 2, none⟩ = some (.slice Ar s5.l.length cr) ∧ (convert 22 9 (.slice Ar s5.l.length cr)).run Tryd.prog w' = .ok (.string SL) w' ∧ w'.cell? ⟨b2, 5, none⟩ = some (.bool s5.dead) ∧ w'.cell? ⟨b2, 4, none⟩ = some (.int .i64 s5.ops))) (by kernel_rfl) ?t2s0 (fun hHeld0 => ?t2r0)
            case t2s0 => (try dsimp only); exact ⟨r2, rc, r5, r4⟩
            refine wpAnyH_take (i := 0) (v := ?t2v1) (by simp only [List.getElem?_toArray, List.getElem?_cons_zero, List.getElem?_cons_succ]; rfl) (by kernel_rfl) (by kernel_rfl) (by kernel_rfl) (fun _ _ _ h => h) (Or.inl ⟨by rfl, ?t2h1⟩) hHeld0 ?t2q1
            case t2h1 => (intro w hSw; (try dsimp only at hSw); go_simp <;> with_reducible rfl)
            try simp only [Act.put, List.setIfInBounds_toArray, List.set_cons_zero, List.set_cons_succ]
            refine wpAnyH_take (i := 3) (v := ?t2v2) (by simp only [List.getElem?_toArray, List.getElem?_cons_zero, List.getElem?_cons_succ]; rfl) (by kernel_rfl) (by kernel_rfl) (by kernel_rfl) (fun _ _ _ h => h) (Or.inl ⟨by rfl, ?t2h2⟩) hHeld0 ?t2q2
            case t2h2 => (intro w hSw; (try dsimp only at hSw); go_simp <;> with_reducible rfl)
            try simp only [Act.put, List.setIfInBounds_toArray, List.set_cons_zero, List.set_cons_succ]
            refine wpAnyH_take (i := 4) (v := ?t2v3) (by simp only [List.getElem?_toArray, List.getElem?_cons_zero, List.getElem?_cons_succ]; rfl) (by kernel_rfl) (by kernel_rfl) (by kernel_rfl) (fun _ _ _ h => h) (Or.inl ⟨by rfl, ?t2h3⟩) hHeld0 ?t2q3
            case t2h3 => (intro w hSw; (try dsimp only at hSw); go_simp <;> with_reducible rfl)
            try simp only [Act.put, List.setIfInBounds_toArray, List.set_cons_zero, List.set_cons_succ]
            refine wpAnyH_take (i := 5) (v := ?t2v4) (by simp only [List.getElem?_toArray, List.getElem?_cons_zero, List.getElem?_cons_succ]; rfl) (by kernel_rfl) (by kernel_rfl) (by kernel_rfl) (fun _ _ _ h => h) (Or.inl ⟨by rfl, ?t2h4⟩) hHeld0 ?t2q4
            case t2h4 => (intro w hSw; (try dsimp only at hSw); go_simp <;> with_reducible rfl)
            try simp only [Act.put, List.setIfInBounds_toArray, List.set_cons_zero, List.set_cons_succ]
            refine wpAnyH_take (i := 6) (v := ?t2v5) (by simp only [List.getElem?_toArray, List.getElem?_cons_zero, List.getElem?_cons_succ]; rfl) (by kernel_rfl) (by kernel_rfl) (by kernel_rfl) (fun _ _ _ h => h) (Or.inl ⟨by rfl, ?t2h5⟩) hHeld0 ?t2q5
            case t2h5 => (intro w hSw; (try dsimp only at hSw); go_simp <;> with_reducible rfl)
            try simp only [Act.put, List.setIfInBounds_toArray, List.set_cons_zero, List.set_cons_succ]
            refine wpAnyH_take (i := 7) (v := ?t2v6) (by simp only [List.getElem?_toArray, List.getElem?_cons_zero, List.getElem?_cons_succ]; rfl) (by kernel_rfl) (by kernel_rfl) (by kernel_rfl) (fun _ _ _ h => h) (Or.inl ⟨by rfl, ?t2h6⟩) hHeld0 ?t2q6
            case t2h6 => (intro w hSw; (try dsimp only at hSw); go_simp <;> with_reducible rfl)
            try simp only [Act.put, List.setIfInBounds_toArray, List.set_cons_zero, List.set_cons_succ]
            refine wpAnyH_ready (rs := [1]) (by kernel_rfl) (by simp) ?_
            refine AllReadyH.cons (by simp only [List.getElem?_toArray, List.getElem?_cons_zero, List.getElem?_cons_succ]; rfl) (fun K hK => ?_) AllReadyH.nil
            go_simp
            go_at_call 13
            refine (bytes_in w wr.drew b F4 s5 HTD.out).mono ?_
            rintro r w6 ⟨A6, c6, rfl, hT6, hB6, hv6⟩
            have hR6 := HRD.out.below hB6
            have hk6 := Keep.of_below hB6 (fun _ => False)
            have hb6 := hk6.blk (show wr.drew.heap[b2]? = some _ from HRO.out.blk) (fun h => h)
            have u2 : w6.cell? ⟨b2, 2, none⟩ = some (.slice Ar s5.l.length cr) := blk_cell hb6 2
            have u4 : w6.cell? ⟨b2, 4, none⟩ = some (.int .i64 s5.ops) := blk_cell hb6 4
            have u5 : w6.cell? ⟨b2, 5, none⟩ = some (.bool s5.dead) := blk_cell hb6 5
            have uc : (convert 22 9 (.slice Ar s5.l.length cr)).run Tryd.prog w6 = .ok (.string SL) w6 := by rw [HSL.out]; exact str_of (buf_reads (Buf.keep (w := wr.drew) HRO.out.buf hk6 (fun _ _ h => h)))
            have ud : (convert 22 9 (.slice A6 s5.l.length c6)).run Tryd.prog w6 = .ok (.string SL) w6 := by rw [HSL.out]; exact str_of (buf_reads hv6)
            have HT6 := Lib.hid hT6
            have HP6 := Lib.hid (show PlaysAt w b b2 s5 s5 F4 G5 w6 from ⟨hT6, hR6, HWP.out.1.dis⟩)
            clear hT6 hB6 hv6 hR6 hk6 hb6
            refine hK.out _ _ ?t2s7 (fun hHeld1 => ?t2q7)
            case t2s7 => (try dsimp only); exact ⟨u2, uc, u5, u4⟩
            clear hK K
            try simp only [Act.put, List.setIfInBounds_toArray, List.set_cons_zero, List.set_cons_succ]
            refine wpAnyH_mono (S' := (fun w' => (convert 22 9 (.slice A6 s5.l.length c6)).run Tryd.prog w' = .ok (.string SL) w' ∧ w'.cell? ⟨b2, 2, none⟩ = some (.slice Ar s5.l.length cr) ∧ (convert 22 9 (.slice Ar s5.l.length cr)).run Tryd.prog w' = .ok (.string SL) w' ∧ w'.cell? ⟨b2, 5, none⟩ = some (.bool s5.dead) ∧ w'.cell? ⟨b2, 4, none⟩ = some (.int .i64 s5.ops))) (fun _ h => h.2) ?_
            have hHeld2 := And.intro ud (And.intro u2 (And.intro uc (And.intro u5 u4)))
            refine wpAnyH_take (i := 2) (v := ?t2v8) (by simp only [List.getElem?_toArray, List.getElem?_cons_zero, List.getElem?_cons_succ]; rfl) (by kernel_rfl) (by kernel_rfl) (by kernel_rfl) (fun _ _ _ h => h) (Or.inl ⟨by rfl, ?t2h8⟩) hHeld2 ?t2q8
            case t2h8 => (intro w hSw; (try dsimp only at hSw); go_simp <;> with_reducible rfl)
            try simp only [Act.put, List.setIfInBounds_toArray, List.set_cons_zero, List.set_cons_succ]
            refine wpAnyH_take (i := 8) (v := ?t2v9) (by simp only [List.getElem?_toArray, List.getElem?_cons_zero, List.getElem?_cons_succ]; rfl) (by kernel_rfl) (by kernel_rfl) (by kernel_rfl) (fun _ _ _ h => h) (Or.inl ⟨by rfl, ?t2h9⟩) hHeld2 ?t2q9
            case t2h9 => (intro w hSw; (try dsimp only at hSw); go_simp <;> with_reducible rfl)
            try simp only [Act.put, List.setIfInBounds_toArray, List.set_cons_zero, List.set_cons_succ]
            refine wpAnyH_take (i := 9) (v := ?t2v10) (by simp only [List.getElem?_toArray, List.getElem?_cons_zero, List.getElem?_cons_succ]; rfl) (by kernel_rfl) (by kernel_rfl) (by kernel_rfl) (fun _ _ _ h => h) (Or.inl ⟨by rfl, ?t2h10⟩) hHeld2 ?t2q10
            case t2h10 => (intro w hSw; (try dsimp only at hSw); go_simp <;> with_reducible rfl)
            try simp only [Act.put, List.setIfInBounds_toArray, List.set_cons_zero, List.set_cons_succ]
            refine wpAnyH_take (i := 10) (v := ?t2v11) (by simp only [List.getElem?_toArray, List.getElem?_cons_zero, List.getElem?_cons_succ]; rfl) (by kernel_rfl) (by kernel_rfl) (by kernel_rfl) (fun _ _ _ h => h) (Or.inl ⟨by rfl, ?t2h11⟩) hHeld2 ?t2q11
            case t2h11 => (intro w hSw; (try dsimp only at hSw); go_simp <;> with_reducible rfl)
            try simp only [Act.put, List.setIfInBounds_toArray, List.set_cons_zero, List.set_cons_succ]
            refine wpAnyH_take (i := 12) (v := ?t2v12) (by simp only [List.getElem?_toArray, List.getElem?_cons_zero, List.getElem?_cons_succ]; rfl) (by kernel_rfl) (by kernel_rfl) (by kernel_rfl) (fun _ _ _ h => h) (Or.inl ⟨by rfl, ?t2h12⟩) hHeld2 ?t2q12
            case t2h12 => (intro w hSw; (try dsimp only at hSw); go_simp <;> with_reducible rfl)
            try simp only [Act.put, List.setIfInBounds_toArray, List.set_cons_zero, List.set_cons_succ]
            refine wpAnyH_take (i := 13) (v := ?t2v13) (by simp only [List.getElem?_toArray, List.getElem?_cons_zero, List.getElem?_cons_succ]; rfl) (by kernel_rfl) (by kernel_rfl) (by kernel_rfl) (fun _ _ _ h => h) (Or.inl ⟨by rfl, ?t2h13⟩) hHeld2 ?t2q13
            case t2h13 => (intro w hSw; (try dsimp only at hSw); go_simp <;> with_reducible rfl)
            try simp only [Act.put, List.setIfInBounds_toArray, List.set_cons_zero, List.set_cons_succ]
            refine wpAnyH_take (i := 14) (v := ?t2v14) (by simp only [List.getElem?_toArray, List.getElem?_cons_zero, List.getElem?_cons_succ]; rfl) (by kernel_rfl) (by kernel_rfl) (by kernel_rfl) (fun _ _ _ h => h) (Or.inl ⟨by rfl, ?t2h14⟩) hHeld2 ?t2q14
            case t2h14 => (intro w hSw; (try dsimp only at hSw); go_simp <;> with_reducible rfl)
            try simp only [Act.put, List.setIfInBounds_toArray, List.set_cons_zero, List.set_cons_succ]
            refine wpAnyH_take (i := 15) (v := ?t2v15) (by simp only [List.getElem?_toArray, List.getElem?_cons_zero, List.getElem?_cons_succ]; rfl) (by kernel_rfl) (by kernel_rfl) (by kernel_rfl) (fun _ _ _ h => h) (Or.inl ⟨by rfl, ?t2h15⟩) hHeld2 ?t2q15
            case t2h15 => (intro w hSw; (try dsimp only at hSw); go_simp <;> with_reducible rfl)
            try simp only [Act.put, List.setIfInBounds_toArray, List.set_cons_zero, List.set_cons_succ]
            refine wpAnyH_ready (rs := [11]) (by kernel_rfl) (by simp) ?_
            refine AllReadyH.cons (by simp only [List.getElem?_toArray, List.getElem?_cons_zero, List.getElem?_cons_succ]; rfl) (fun K hK => ?_) AllReadyH.nil
            go_simp
            go_at_call 23
            refine (dead_any w6 w.heap.size b F4 s5 HT6.out.at_).mono ?_
            rintro r w7 ⟨rfl, rfl⟩
            refine hK.out _ _ ?t2s16 (fun hHeld3 => ?t2q16)
            case t2s16 => (try dsimp only); exact ⟨ud, u2, uc, u5, u4⟩
            clear hK K
            try simp only [Act.put, List.setIfInBounds_toArray, List.set_cons_zero, List.set_cons_succ]
            refine wpAnyH_take (i := 16) (v := ?t2v17) (by simp only [List.getElem?_toArray, List.getElem?_cons_zero, List.getElem?_cons_succ]; rfl) (by kernel_rfl) (by kernel_rfl) (by kernel_rfl) (fun _ _ _ h => h) (Or.inl ⟨by rfl, ?t2h17⟩) hHeld3 ?t2q17
            case t2h17 => (intro w hSw; (try dsimp only at hSw); go_simp <;> with_reducible rfl)
            try simp only [Act.put, List.setIfInBounds_toArray, List.set_cons_zero, List.set_cons_succ]
            refine wpAnyH_take (i := 17) (v := ?t2v18) (by simp only [List.getElem?_toArray, List.getElem?_cons_zero, List.getElem?_cons_succ]; rfl) (by kernel_rfl) (by kernel_rfl) (by kernel_rfl) (fun _ _ _ h => h) (Or.inl ⟨by rfl, ?t2h18⟩) hHeld3 ?t2q18
            case t2h18 => (intro w hSw; (try dsimp only at hSw); go_simp <;> with_reducible rfl)
            try simp only [Act.put, List.setIfInBounds_toArray, List.set_cons_zero, List.set_cons_succ]
            refine wpAnyH_take (i := 18) (v := ?t2v19) (by simp only [List.getElem?_toArray, List.getElem?_cons_zero, List.getElem?_cons_succ]; rfl) (by kernel_rfl) (by kernel_rfl) (by kernel_rfl) (fun _ _ _ h => h) (Or.inl ⟨by rfl, ?t2h19⟩) hHeld3 ?t2q19
            case t2h19 => (intro w hSw; (try dsimp only at hSw); go_simp <;> with_reducible rfl)
            try simp only [Act.put, List.setIfInBounds_toArray, List.set_cons_zero, List.set_cons_succ]
            refine wpAnyH_take (i := 19) (v := ?t2v20) (by simp only [List.getElem?_toArray, List.getElem?_cons_zero, List.getElem?_cons_succ]; rfl) (by kernel_rfl) (by kernel_rfl) (by kernel_rfl) (fun _ _ _ h => h) (Or.inl ⟨by rfl, ?t2h20⟩) hHeld3 ?t2q20
            case t2h20 => (intro w hSw; (try dsimp only at hSw); go_simp <;> with_reducible rfl)
            try simp only [Act.put, List.setIfInBounds_toArray, List.set_cons_zero, List.set_cons_succ]
            refine wpAnyH_take (i := 21) (v := ?t2v21) (by simp only [List.getElem?_toArray, List.getElem?_cons_zero, List.getElem?_cons_succ]; rfl) (by kernel_rfl) (by kernel_rfl) (by kernel_rfl) (fun _ _ _ h => h) (Or.inl ⟨by rfl, ?t2h21⟩) hHeld3 ?t2q21
            case t2h21 => (intro w hSw; (try dsimp only at hSw); go_simp <;> with_reducible rfl)
            try simp only [Act.put, List.setIfInBounds_toArray, List.set_cons_zero, List.set_cons_succ]
            refine wpAnyH_take (i := 22) (v := ?t2v22) (by simp only [List.getElem?_toArray, List.getElem?_cons_zero, List.getElem?_cons_succ]; rfl) (by kernel_rfl) (by kernel_rfl) (by kernel_rfl) (fun _ _ _ h => h) (Or.inl ⟨by rfl, ?t2h22⟩) hHeld3 ?t2q22
            case t2h22 => (intro w hSw; (try dsimp only at hSw); go_simp <;> with_reducible rfl)
            try simp only [Act.put, List.setIfInBounds_toArray, List.set_cons_zero, List.set_cons_succ]
            refine wpAnyH_take (i := 23) (v := ?t2v23) (by simp only [List.getElem?_toArray, List.getElem?_cons_zero, List.getElem?_cons_succ]; rfl) (by kernel_rfl) (by kernel_rfl) (by kernel_rfl) (fun _ _ _ h => h) (Or.inl ⟨by rfl, ?t2h23⟩) hHeld3 ?t2q23
            case t2h23 => (intro w hSw; (try dsimp only at hSw); go_simp <;> with_reducible rfl)
            try simp only [Act.put, List.setIfInBounds_toArray, List.set_cons_zero, List.set_cons_succ]
            refine wpAnyH_take (i := 24) (v := ?t2v24) (by simp only [List.getElem?_toArray, List.getElem?_cons_zero, List.getElem?_cons_succ]; rfl) (by kernel_rfl) (by kernel_rfl) (by kernel_rfl) (fun _ _ _ h => h) (Or.inl ⟨by rfl, ?t2h24⟩) hHeld3 ?t2q24
            case t2h24 => (intro w hSw; (try dsimp only at hSw); go_simp <;> with_reducible rfl)
            try simp only [Act.put, List.setIfInBounds_toArray, List.set_cons_zero, List.set_cons_succ]
            refine wpAnyH_ready (rs := [20]) (by kernel_rfl) (by simp) ?_
            refine AllReadyH.cons (by simp only [List.getElem?_toArray, List.getElem?_cons_zero, List.getElem?_cons_succ]; rfl) (fun K hK => ?_) AllReadyH.nil
            go_simp
            go_at_call 24
            refine (ops_any w6 w.heap.size b F4 s5 HT6.out.at_).mono ?_
            rintro r w7 ⟨rfl, rfl⟩
            refine hK.out _ _ ?t2s25 (fun hHeld4 => ?t2q25)
            case t2s25 => (try dsimp only); exact ⟨ud, u2, uc, u5, u4⟩
            clear hK K
            try simp only [Act.put, List.setIfInBounds_toArray, List.set_cons_zero, List.set_cons_succ]
            refine wpAnyH_take (i := 25) (v := ?t2v26) (by simp only [List.getElem?_toArray, List.getElem?_cons_zero, List.getElem?_cons_succ]; rfl) (by kernel_rfl) (by kernel_rfl) (by kernel_rfl) (fun _ _ _ h => h) (Or.inl ⟨by rfl, ?t2h26⟩) hHeld4 ?t2q26
            case t2h26 => (intro w hSw; (try dsimp only at hSw); go_simp <;> with_reducible rfl)
            try simp only [Act.put, List.setIfInBounds_toArray, List.set_cons_zero, List.set_cons_succ]
            refine wpAnyH_take (i := 26) (v := ?t2v27) (by simp only [List.getElem?_toArray, List.getElem?_cons_zero, List.getElem?_cons_succ]; rfl) (by kernel_rfl) (by kernel_rfl) (by kernel_rfl) (fun _ _ _ h => h) (Or.inl ⟨by rfl, ?t2h27⟩) hHeld4 ?t2q27
            case t2h27 => (intro w hSw; (try dsimp only at hSw); go_simp <;> with_reducible rfl)
            try simp only [Act.put, List.setIfInBounds_toArray, List.set_cons_zero, List.set_cons_succ]
            refine wpAnyH_done (by kernel_rfl) ?_ _
            refine NoPanic.normal ?_
            go_wp2_with fail
            exact ⟨⟨k + 1, s5, F4, G5, by omega, by omega, by simp, HP6.out, hso0, by push_cast; omega⟩, by simp [intOf]; omega⟩
      · go_wp2_with (first
          | (at_builtin
             refine wpList_append_buf ((wr.alloc _).alloc (.cells #[] 5)) rfl _ _ 22 5 .u8 1 w.heap.size rfl Tryd.underlying22 info5 (by decide) (.slice (some ⟨wr.heap.size + 1, 0, none⟩) 0 0) [] x.b Bx x.b.length cx ?st31 ?st32 HLB.out HRA.out hbwA hblA ?st33
             case st31 => rfl
             case st32 => rfl
             intro v3 w3 hv hg hat
             rw [List.nil_append] at hv
             have hM := HMA.out v3 w3 hv hg hat
             obtain ⟨Aa, ca, rfl⟩ := hv.slice
             have qk : w3.cell? ⟨wr.heap.size, 0, none⟩ = some (.int .i64 x.kd) := blk_cell hM.box 0
             have qn : w3.cell? ⟨wr.heap.size, 1, none⟩ = some (.int .i64 x.n) := blk_cell hM.box 1
             have qb : w3.cell? ⟨wr.heap.size, 2, none⟩ = some (.slice Bx x.b.length cx) := blk_cell hM.box 2
             have HM := Lib.hid hM
             clear hv hg hat hM HLB HRA HMA hbwA hblA q0 q1 q2
             generalize wr.heap.size = pc at *)
          | (go_at_call 14; refine (within_any x.kd 5 w3 (by decide) (by decide)).mono ?_; rintro e w2 ⟨rfl, rfl⟩; rw [hkd]))
        go_wp2_with (first
          | (go_at_call 16; refine (stop_in x.n w w3 b F s HM.out.pl.tp HXN.out).mono ?_; rintro r w4 ⟨rfl, hT⟩; obtain ⟨F4, hM4⟩ := HM.out.tape hT; have cn4 : w4.cell? ⟨pc, 1, none⟩ = some (.int .i64 x.n) := box1 hM4.box; have HM4 := Lib.hid hM4; clear hT hM4)
          | (go_at_call 21; refine (rstop_any x.n w4 w.heap.size b2 G s HOK.out HM4.out.pl.rf).mono ?_; rintro r w5 ⟨rfl, hR⟩; obtain ⟨G5, hM5⟩ := HM4.out.ref hR; have HM5 := Lib.hid hM5; clear hR hM5))
        have hops : (stopS s x.n).ops ≤ s.ops + 1 := by show s.ops ≤ s.ops + 1; omega
        have HM5q := HM5
        have hso0 := (HM5.out.pl.tp.ok).ops0
        generalize (stopS s x.n) = s5 at HM5 HM5q hso0 hops
        clear HM5q
        have HW0 := Lib.hid HM5.out.wiped
        go_wp2_with fail
        go_loopw [12] (fun kv wr => ∃ (j : Nat), j ≤ x.b.length ∧ kv = .int .i64 (j : Int) ∧ WipedA w b b2 s5 F4 G5 wr Aa x.b.length) (fun kv _ => x.b.length - (intOf kv).toNat)
        case atStart => exact ⟨0, by omega, rfl, HW0.out⟩
        case round =>
          obtain ⟨j, hj, rfl, hwp⟩ := hrel
          have HWP := Lib.hid hwp
          clear hwp
          by_cases hjl : (j : Int) < (x.b.length : Int)
          · obtain ⟨g, rfl, hwd⟩ := HWP.out.2 (by omega)
            obtain ⟨cur, hg1, hg2⟩ := hwd.row
            have hj0 : (0 : Int) ≤ (j : Int) := by omega
            obtain ⟨u, hcu⟩ : ∃ u, wr.cell? ⟨g, j, none⟩ = some u := ⟨_, by rw [cell_of_row _ g j _ _ _ hg1]; exact Array.getElem?_eq_getElem (by omega)⟩
            have hfz : wr.frozen? ⟨g, j, none⟩ = false := blk_frozen hg1 j
            have HWD := Lib.hid (hwd.store j (.int .u8 238))
            clear hwd
            go_wp2
            exact ⟨⟨j + 1, by omega, by simp, HWD.out.pl, fun _ => ⟨g, rfl, HWD.out⟩⟩, by simp [intOf]; omega⟩
          · obtain ⟨Ar, cr, hro⟩ := HWP.out.1.rf.open_
            have r2 : wr.drew.cell? ⟨b2, 2, none⟩ = some (.slice Ar s5.l.length cr) := blk_cell hro.blk 2
            have r4 : wr.drew.cell? ⟨b2, 4, none⟩ = some (.int .i64 s5.ops) := blk_cell hro.blk 4
            have r5 : wr.drew.cell? ⟨b2, 5, none⟩ = some (.bool s5.dead) := blk_cell hro.blk 5
            obtain ⟨SL, hSL⟩ : ∃ z, z = strOfNums s5.l := ⟨_, rfl⟩
            have rc : (convert 22 9 (.slice Ar s5.l.length cr)).run Tryd.prog wr.drew = .ok (.string SL) wr.drew := by rw [hSL]; exact str_of (W := wr.drew) (buf_reads hro.buf)
            have heS : (SL.toList == SL.toList) = true := by simp
            have HSL := Lib.hid hSL
            have HRO := Lib.hid hro
            have HTD := Lib.hid (show TapeIn w b s5 wr.drew F4 from ⟨HWP.out.1.tp.at_, HWP.out.1.tp.below.drew, HWP.out.1.tp.laid, HWP.out.1.tp.ok⟩)
            have HRD := Lib.hid (show RefAt wr.drew w.heap.size G5 b2 s5 from HWP.out.1.rf)
            have hjd : decide ((j : Int) < (x.b.length : Int)) = false := by simp; omega
            clear hSL hro
            go_wp2_with fail
            refine wp_region_noPanic ?_
            refine wp_region_held_drew (S := (fun w' => w'.cell? ⟨b2, 2, none⟩ = some (.slice Ar s5.l.length cr) ∧ (convert 22 9 (.slice Ar s5.l.length cr)).run Tryd.prog w' = .ok (.string SL) w' ∧ w'.cell? ⟨b2, 5, none⟩ = some (.bool s5.dead) ∧ w'.cell? ⟨b2, 4, none⟩ = some (.int .i64 s5.ops))) (by kernel_rfl) ?t3s0 (fun hHeld0 => ?t3r0)
            case t3s0 => (try dsimp only); exact ⟨r2, rc, r5, r4⟩
            refine wpAnyH_take (i := 0) (v := ?t3v1) (by simp only [List.getElem?_toArray, List.getElem?_cons_zero, List.getElem?_cons_succ]; rfl) (by kernel_rfl) (by kernel_rfl) (by kernel_rfl) (fun _ _ _ h => h) (Or.inl ⟨by rfl, ?t3h1⟩) hHeld0 ?t3q1
            case t3h1 => (intro w hSw; (try dsimp only at hSw); go_simp <;> with_reducible rfl)
            try simp only [Act.put, List.setIfInBounds_toArray, List.set_cons_zero, List.set_cons_succ]
            refine wpAnyH_take (i := 3) (v := ?t3v2) (by simp only [List.getElem?_toArray, List.getElem?_cons_zero, List.getElem?_cons_succ]; rfl) (by kernel_rfl) (by kernel_rfl) (by kernel_rfl) (fun _ _ _ h => h) (Or.inl ⟨by rfl, ?t3h2⟩) hHeld0 ?t3q2
            case t3h2 => (intro w hSw; (try dsimp only at hSw); go_simp <;> with_reducible rfl)
            try simp only [Act.put, List.setIfInBounds_toArray, List.set_cons_zero, List.set_cons_succ]
            refine wpAnyH_take (i := 4) (v := ?t3v3) (by simp only [List.getElem?_toArray, List.getElem?_cons_zero, List.getElem?_cons_succ]; rfl) (by kernel_rfl) (by kernel_rfl) (by kernel_rfl) (fun _ _ _ h => h) (Or.inl ⟨by rfl, ?t3h3⟩) hHeld0 ?t3q3
            case t3h3 => (intro w hSw; (try dsimp only at hSw); go_simp <;> with_reducible rfl)
            try simp only [Act.put, List.setIfInBounds_toArray, List.set_cons_zero, List.set_cons_succ]
            refine wpAnyH_take (i := 5) (v := ?t3v4) (by simp only [List.getElem?_toArray, List.getElem?_cons_zero, List.getElem?_cons_succ]; rfl) (by kernel_rfl) (by kernel_rfl) (by kernel_rfl) (fun _ _ _ h => h) (Or.inl ⟨by rfl, ?t3h4⟩) hHeld0 ?t3q4
            case t3h4 => (intro w hSw; (try dsimp only at hSw); go_simp <;> with_reducible rfl)
            try simp only [Act.put, List.setIfInBounds_toArray, List.set_cons_zero, List.set_cons_succ]
            refine wpAnyH_take (i := 6) (v := ?t3v5) (by simp only [List.getElem?_toArray, List.getElem?_cons_zero, List.getElem?_cons_succ]; rfl) (by kernel_rfl) (by kernel_rfl) (by kernel_rfl) (fun _ _ _ h => h) (Or.inl ⟨by rfl, ?t3h5⟩) hHeld0 ?t3q5
            case t3h5 => (intro w hSw; (try dsimp only at hSw); go_simp <;> with_reducible rfl)
            try simp only [Act.put, List.setIfInBounds_toArray, List.set_cons_zero, List.set_cons_succ]
            refine wpAnyH_take (i := 7) (v := ?t3v6) (by simp only [List.getElem?_toArray, List.getElem?_cons_zero, List.getElem?_cons_succ]; rfl) (by kernel_rfl) (by kernel_rfl) (by kernel_rfl) (fun _ _ _ h => h) (Or.inl ⟨by rfl, ?t3h6⟩) hHeld0 ?t3q6
            case t3h6 => (intro w hSw; (try dsimp only at hSw); go_simp <;> with_reducible rfl)
            try simp only [Act.put, List.setIfInBounds_toArray, List.set_cons_zero, List.set_cons_succ]
            refine wpAnyH_ready (rs := [1]) (by kernel_rfl) (by simp) ?_
            refine AllReadyH.cons (by simp only [List.getElem?_toArray, List.getElem?_cons_zero, List.getElem?_cons_succ]; rfl) (fun K hK => ?_) AllReadyH.nil
            go_simp
            go_at_call 13
            refine (bytes_in w wr.drew b F4 s5 HTD.out).mono ?_
            rintro r w6 ⟨A6, c6, rfl, hT6, hB6, hv6⟩
            have hR6 := HRD.out.below hB6
            have hk6 := Keep.of_below hB6 (fun _ => False)
            have hb6 := hk6.blk (show wr.drew.heap[b2]? = some _ from HRO.out.blk) (fun h => h)
            have u2 : w6.cell? ⟨b2, 2, none⟩ = some (.slice Ar s5.l.length cr) := blk_cell hb6 2
            have u4 : w6.cell? ⟨b2, 4, none⟩ = some (.int .i64 s5.ops) := blk_cell hb6 4
            have u5 : w6.cell? ⟨b2, 5, none⟩ = some (.bool s5.dead) := blk_cell hb6 5
            have uc : (convert 22 9 (.slice Ar s5.l.length cr)).run Tryd.prog w6 = .ok (.string SL) w6 := by rw [HSL.out]; exact str_of (buf_reads (Buf.keep (w := wr.drew) HRO.out.buf hk6 (fun _ _ h => h)))
            have ud : (convert 22 9 (.slice A6 s5.l.length c6)).run Tryd.prog w6 = .ok (.string SL) w6 := by rw [HSL.out]; exact str_of (buf_reads hv6)
            have HT6 := Lib.hid hT6
            have HP6 := Lib.hid (show PlaysAt w b b2 s5 s5 F4 G5 w6 from ⟨hT6, hR6, HWP.out.1.dis⟩)
            clear hT6 hB6 hv6 hR6 hk6 hb6
            refine hK.out _ _ ?t3s7 (fun hHeld1 => ?t3q7)
            case t3s7 => (try dsimp only); exact ⟨u2, uc, u5, u4⟩
            clear hK K
            try simp only [Act.put, List.setIfInBounds_toArray, List.set_cons_zero, List.set_cons_succ]
            refine wpAnyH_mono (S' := (fun w' => (convert 22 9 (.slice A6 s5.l.length c6)).run Tryd.prog w' = .ok (.string SL) w' ∧ w'.cell? ⟨b2, 2, none⟩ = some (.slice Ar s5.l.length cr) ∧ (convert 22 9 (.slice Ar s5.l.length cr)).run Tryd.prog w' = .ok (.string SL) w' ∧ w'.cell? ⟨b2, 5, none⟩ = some (.bool s5.dead) ∧ w'.cell? ⟨b2, 4, none⟩ = some (.int .i64 s5.ops))) (fun _ h => h.2) ?_
            have hHeld2 := And.intro ud (And.intro u2 (And.intro uc (And.intro u5 u4)))
            refine wpAnyH_take (i := 2) (v := ?t3v8) (by simp only [List.getElem?_toArray, List.getElem?_cons_zero, List.getElem?_cons_succ]; rfl) (by kernel_rfl) (by kernel_rfl) (by kernel_rfl) (fun _ _ _ h => h) (Or.inl ⟨by rfl, ?t3h8⟩) hHeld2 ?t3q8
            case t3h8 => (intro w hSw; (try dsimp only at hSw); go_simp <;> with_reducible rfl)
            try simp only [Act.put, List.setIfInBounds_toArray, List.set_cons_zero, List.set_cons_succ]
            refine wpAnyH_take (i := 8) (v := ?t3v9) (by simp only [List.getElem?_toArray, List.getElem?_cons_zero, List.getElem?_cons_succ]; rfl) (by kernel_rfl) (by kernel_rfl) (by kernel_rfl) (fun _ _ _ h => h) (Or.inl ⟨by rfl, ?t3h9⟩) hHeld2 ?t3q9
            case t3h9 => (intro w hSw; (try dsimp only at hSw); go_simp <;> with_reducible rfl)
            try simp only [Act.put, List.setIfInBounds_toArray, List.set_cons_zero, List.set_cons_succ]
            refine wpAnyH_take (i := 9) (v := ?t3v10) (by simp only [List.getElem?_toArray, List.getElem?_cons_zero, List.getElem?_cons_succ]; rfl) (by kernel_rfl) (by kernel_rfl) (by kernel_rfl) (fun _ _ _ h => h) (Or.inl ⟨by rfl, ?t3h10⟩) hHeld2 ?t3q10
            case t3h10 => (intro w hSw; (try dsimp only at hSw); go_simp <;> with_reducible rfl)
            try simp only [Act.put, List.setIfInBounds_toArray, List.set_cons_zero, List.set_cons_succ]
            refine wpAnyH_take (i := 10) (v := ?t3v11) (by simp only [List.getElem?_toArray, List.getElem?_cons_zero, List.getElem?_cons_succ]; rfl) (by kernel_rfl) (by kernel_rfl) (by kernel_rfl) (fun _ _ _ h => h) (Or.inl ⟨by rfl, ?t3h11⟩) hHeld2 ?t3q11
            case t3h11 => (intro w hSw; (try dsimp only at hSw); go_simp <;> with_reducible rfl)
            try simp only [Act.put, List.setIfInBounds_toArray, List.set_cons_zero, List.set_cons_succ]
            refine wpAnyH_take (i := 12) (v := ?t3v12) (by simp only [List.getElem?_toArray, List.getElem?_cons_zero, List.getElem?_cons_succ]; rfl) (by kernel_rfl) (by kernel_rfl) (by kernel_rfl) (fun _ _ _ h => h) (Or.inl ⟨by rfl, ?t3h12⟩) hHeld2 ?t3q12
            case t3h12 => (intro w hSw; (try dsimp only at hSw); go_simp <;> with_reducible rfl)
            try simp only [Act.put, List.setIfInBounds_toArray, List.set_cons_zero, List.set_cons_succ]
            refine wpAnyH_take (i := 13) (v := ?t3v13) (by simp only [List.getElem?_toArray, List.getElem?_cons_zero, List.getElem?_cons_succ]; rfl) (by kernel_rfl) (by kernel_rfl) (by kernel_rfl) (fun _ _ _ h => h) (Or.inl ⟨by rfl, ?t3h13⟩) hHeld2 ?t3q13
            case t3h13 => (intro w hSw; (try dsimp only at hSw); go_simp <;> with_reducible rfl)
            try simp only [Act.put, List.setIfInBounds_toArray, List.set_cons_zero, List.set_cons_succ]
            refine wpAnyH_take (i := 14) (v := ?t3v14) (by simp only [List.getElem?_toArray, List.getElem?_cons_zero, List.getElem?_cons_succ]; rfl) (by kernel_rfl) (by kernel_rfl) (by kernel_rfl) (fun _ _ _ h => h) (Or.inl ⟨by rfl, ?t3h14⟩) hHeld2 ?t3q14
            case t3h14 => (intro w hSw; (try dsimp only at hSw); go_simp <;> with_reducible rfl)
            try simp only [Act.put, List.setIfInBounds_toArray, List.set_cons_zero, List.set_cons_succ]
            refine wpAnyH_take (i := 15) (v := ?t3v15) (by simp only [List.getElem?_toArray, List.getElem?_cons_zero, List.getElem?_cons_succ]; rfl) (by kernel_rfl) (by kernel_rfl) (by kernel_rfl) (fun _ _ _ h => h) (Or.inl ⟨by rfl, ?t3h15⟩) hHeld2 ?t3q15
            case t3h15 => (intro w hSw; (try dsimp only at hSw); go_simp <;> with_reducible rfl)
            try simp only [Act.put, List.setIfInBounds_toArray, List.set_cons_zero, List.set_cons_succ]
            refine wpAnyH_ready (rs := [11]) (by kernel_rfl) (by simp) ?_
            refine AllReadyH.cons (by simp only [List.getElem?_toArray, List.getElem?_cons_zero, List.getElem?_cons_succ]; rfl) (fun K hK => ?_) AllReadyH.nil
            go_simp
            go_at_call 23
            refine (dead_any w6 w.heap.size b F4 s5 HT6.out.at_).mono ?_
            rintro r w7 ⟨rfl, rfl⟩
            refine hK.out _ _ ?t3s16 (fun hHeld3 => ?t3q16)
            case t3s16 => (try dsimp only); exact ⟨ud, u2, uc, u5, u4⟩
            clear hK K
            try simp only [Act.put, List.setIfInBounds_toArray, List.set_cons_zero, List.set_cons_succ]
            refine wpAnyH_take (i := 16) (v := ?t3v17) (by simp only [List.getElem?_toArray, List.getElem?_cons_zero, List.getElem?_cons_succ]; rfl) (by kernel_rfl) (by kernel_rfl) (by kernel_rfl) (fun _ _ _ h => h) (Or.inl ⟨by rfl, ?t3h17⟩) hHeld3 ?t3q17
            case t3h17 => (intro w hSw; (try dsimp only at hSw); go_simp <;> with_reducible rfl)
            try simp only [Act.put, List.setIfInBounds_toArray, List.set_cons_zero, List.set_cons_succ]
            refine wpAnyH_take (i := 17) (v := ?t3v18) (by simp only [List.getElem?_toArray, List.getElem?_cons_zero, List.getElem?_cons_succ]; rfl) (by kernel_rfl) (by kernel_rfl) (by kernel_rfl) (fun _ _ _ h => h) (Or.inl ⟨by rfl, ?t3h18⟩) hHeld3 ?t3q18
            case t3h18 => (intro w hSw; (try dsimp only at hSw); go_simp <;> with_reducible rfl)
            try simp only [Act.put, List.setIfInBounds_toArray, List.set_cons_zero, List.set_cons_succ]
            refine wpAnyH_take (i := 18) (v := ?t3v19) (by simp only [List.getElem?_toArray, List.getElem?_cons_zero, List.getElem?_cons_succ]; rfl) (by kernel_rfl) (by kernel_rfl) (by kernel_rfl) (fun _ _ _ h => h) (Or.inl ⟨by rfl, ?t3h19⟩) hHeld3 ?t3q19
            case t3h19 => (intro w hSw; (try dsimp only at hSw); go_simp <;> with_reducible rfl)
            try simp only [Act.put, List.setIfInBounds_toArray, List.set_cons_zero, List.set_cons_succ]
            refine wpAnyH_take (i := 19) (v := ?t3v20) (by simp only [List.getElem?_toArray, List.getElem?_cons_zero, List.getElem?_cons_succ]; rfl) (by kernel_rfl) (by kernel_rfl) (by kernel_rfl) (fun _ _ _ h => h) (Or.inl ⟨by rfl, ?t3h20⟩) hHeld3 ?t3q20
            case t3h20 => (intro w hSw; (try dsimp only at hSw); go_simp <;> with_reducible rfl)
            try simp only [Act.put, List.setIfInBounds_toArray, List.set_cons_zero, List.set_cons_succ]
            refine wpAnyH_take (i := 21) (v := ?t3v21) (by simp only [List.getElem?_toArray, List.getElem?_cons_zero, List.getElem?_cons_succ]; rfl) (by kernel_rfl) (by kernel_rfl) (by kernel_rfl) (fun _ _ _ h => h) (Or.inl ⟨by rfl, ?t3h21⟩) hHeld3 ?t3q21
            case t3h21 => (intro w hSw; (try dsimp only at hSw); go_simp <;> with_reducible rfl)
            try simp only [Act.put, List.setIfInBounds_toArray, List.set_cons_zero, List.set_cons_succ]
            refine wpAnyH_take (i := 22) (v := ?t3v22) (by simp only [List.getElem?_toArray, List.getElem?_cons_zero, List.getElem?_cons_succ]; rfl) (by kernel_rfl) (by kernel_rfl) (by kernel_rfl) (fun _ _ _ h => h) (Or.inl ⟨by rfl, ?t3h22⟩) hHeld3 ?t3q22
            case t3h22 => (intro w hSw; (try dsimp only at hSw); go_simp <;> with_reducible rfl)
            try simp only [Act.put, List.setIfInBounds_toArray, List.set_cons_zero, List.set_cons_succ]
            refine wpAnyH_take (i := 23) (v := ?t3v23) (by simp only [List.getElem?_toArray, List.getElem?_cons_zero, List.getElem?_cons_succ]; rfl) (by kernel_rfl) (by kernel_rfl) (by kernel_rfl) (fun _ _ _ h => h) (Or.inl ⟨by rfl, ?t3h23⟩) hHeld3 ?t3q23
            case t3h23 => (intro w hSw; (try dsimp only at hSw); go_simp <;> with_reducible rfl)
            try simp only [Act.put, List.setIfInBounds_toArray, List.set_cons_zero, List.set_cons_succ]
            refine wpAnyH_take (i := 24) (v := ?t3v24) (by simp only [List.getElem?_toArray, List.getElem?_cons_zero, List.getElem?_cons_succ]; rfl) (by kernel_rfl) (by kernel_rfl) (by kernel_rfl) (fun _ _ _ h => h) (Or.inl ⟨by rfl, ?t3h24⟩) hHeld3 ?t3q24
            case t3h24 => (intro w hSw; (try dsimp only at hSw); go_simp <;> with_reducible rfl)
            try simp only [Act.put, List.setIfInBounds_toArray, List.set_cons_zero, List.set_cons_succ]
            refine wpAnyH_ready (rs := [20]) (by kernel_rfl) (by simp) ?_
            refine AllReadyH.cons (by simp only [List.getElem?_toArray, List.getElem?_cons_zero, List.getElem?_cons_succ]; rfl) (fun K hK => ?_) AllReadyH.nil
            go_simp
            go_at_call 24
            refine (ops_any w6 w.heap.size b F4 s5 HT6.out.at_).mono ?_
            rintro r w7 ⟨rfl, rfl⟩
            refine hK.out _ _ ?t3s25 (fun hHeld4 => ?t3q25)
            case t3s25 => (try dsimp only); exact ⟨ud, u2, uc, u5, u4⟩
            clear hK K
            try simp only [Act.put, List.setIfInBounds_toArray, List.set_cons_zero, List.set_cons_succ]
            refine wpAnyH_take (i := 25) (v := ?t3v26) (by simp only [List.getElem?_toArray, List.getElem?_cons_zero, List.getElem?_cons_succ]; rfl) (by kernel_rfl) (by kernel_rfl) (by kernel_rfl) (fun _ _ _ h => h) (Or.inl ⟨by rfl, ?t3h26⟩) hHeld4 ?t3q26
            case t3h26 => (intro w hSw; (try dsimp only at hSw); go_simp <;> with_reducible rfl)
            try simp only [Act.put, List.setIfInBounds_toArray, List.set_cons_zero, List.set_cons_succ]
            refine wpAnyH_take (i := 26) (v := ?t3v27) (by simp only [List.getElem?_toArray, List.getElem?_cons_zero, List.getElem?_cons_succ]; rfl) (by kernel_rfl) (by kernel_rfl) (by kernel_rfl) (fun _ _ _ h => h) (Or.inl ⟨by rfl, ?t3h27⟩) hHeld4 ?t3q27
            case t3h27 => (intro w hSw; (try dsimp only at hSw); go_simp <;> with_reducible rfl)
            try simp only [Act.put, List.setIfInBounds_toArray, List.set_cons_zero, List.set_cons_succ]
            refine wpAnyH_done (by kernel_rfl) ?_ _
            refine NoPanic.normal ?_
            go_wp2_with fail
            exact ⟨⟨k + 1, s5, F4, G5, by omega, by omega, by simp, HP6.out, hso0, by push_cast; omega⟩, by simp [intOf]; omega⟩
      · go_wp2_with (first
          | (at_builtin
             refine wpList_append_buf ((wr.alloc _).alloc (.cells #[] 5)) rfl _ _ 22 5 .u8 1 w.heap.size rfl Tryd.underlying22 info5 (by decide) (.slice (some ⟨wr.heap.size + 1, 0, none⟩) 0 0) [] x.b Bx x.b.length cx ?st41 ?st42 HLB.out HRA.out hbwA hblA ?st43
             case st41 => rfl
             case st42 => rfl
             intro v3 w3 hv hg hat
             rw [List.nil_append] at hv
             have hM := HMA.out v3 w3 hv hg hat
             obtain ⟨Aa, ca, rfl⟩ := hv.slice
             have qk : w3.cell? ⟨wr.heap.size, 0, none⟩ = some (.int .i64 x.kd) := blk_cell hM.box 0
             have qn : w3.cell? ⟨wr.heap.size, 1, none⟩ = some (.int .i64 x.n) := blk_cell hM.box 1
             have qb : w3.cell? ⟨wr.heap.size, 2, none⟩ = some (.slice Bx x.b.length cx) := blk_cell hM.box 2
             have HM := Lib.hid hM
             clear hv hg hat hM HLB HRA HMA hbwA hblA q0 q1 q2
             generalize wr.heap.size = pc at *)
          | (go_at_call 14; refine (within_any x.kd 5 w3 (by decide) (by decide)).mono ?_; rintro e w2 ⟨rfl, rfl⟩; rw [hkd]))
        have HMD := Lib.hid HM.out.drew
        refine wp_region_noPanic ?_
        refine wp_region_held_drew (S := (fun w' => w'.cell? ⟨pc, 1, none⟩ = some (.int .i64 x.n))) (by kernel_rfl) ?kes0 (fun hHeld0 => ?ker0)
        case kes0 => (try dsimp only); exact (box1 HMD.out.box)
        refine wpAnyH_take (i := 0) (v := ?kev1) (by simp only [List.getElem?_toArray, List.getElem?_cons_zero, List.getElem?_cons_succ]; rfl) (by kernel_rfl) (by kernel_rfl) (by kernel_rfl) (fun _ _ _ h => h) (Or.inl ⟨by rfl, ?keh1⟩) hHeld0 ?keq1
        case keh1 => (intro w hSw; (try dsimp only at hSw); go_simp <;> with_reducible rfl)
        try simp only [Act.put, List.setIfInBounds_toArray, List.set_cons_zero, List.set_cons_succ]
        refine wpAnyH_take (i := 1) (v := ?kev2) (by simp only [List.getElem?_toArray, List.getElem?_cons_zero, List.getElem?_cons_succ]; rfl) (by kernel_rfl) (by kernel_rfl) (by kernel_rfl) (fun _ _ _ h => h) (Or.inl ⟨by rfl, ?keh2⟩) hHeld0 ?keq2
        case keh2 => (intro w hSw; (try dsimp only at hSw); go_simp <;> with_reducible rfl)
        try simp only [Act.put, List.setIfInBounds_toArray, List.set_cons_zero, List.set_cons_succ]
        refine wpAnyH_take (i := 2) (v := ?kev3) (by simp only [List.getElem?_toArray, List.getElem?_cons_zero, List.getElem?_cons_succ]; rfl) (by kernel_rfl) (by kernel_rfl) (by kernel_rfl) (fun _ _ _ h => h) (Or.inl ⟨by rfl, ?keh3⟩) hHeld0 ?keq3
        case keh3 => (intro w hSw; (try dsimp only at hSw); go_simp <;> with_reducible rfl)
        try simp only [Act.put, List.setIfInBounds_toArray, List.set_cons_zero, List.set_cons_succ]
        refine wpAnyH_take (i := 4) (v := ?kev4) (by simp only [List.getElem?_toArray, List.getElem?_cons_zero, List.getElem?_cons_succ]; rfl) (by kernel_rfl) (by kernel_rfl) (by kernel_rfl) (fun _ _ _ h => h) (Or.inl ⟨by rfl, ?keh4⟩) hHeld0 ?keq4
        case keh4 => (intro w hSw; (try dsimp only at hSw); go_simp <;> with_reducible rfl)
        try simp only [Act.put, List.setIfInBounds_toArray, List.set_cons_zero, List.set_cons_succ]
        refine wpAnyH_take (i := 5) (v := ?kev5) (by simp only [List.getElem?_toArray, List.getElem?_cons_zero, List.getElem?_cons_succ]; rfl) (by kernel_rfl) (by kernel_rfl) (by kernel_rfl) (fun _ _ _ h => h) (Or.inl ⟨by rfl, ?keh5⟩) hHeld0 ?keq5
        case keh5 => (intro w hSw; (try dsimp only at hSw); go_simp <;> with_reducible rfl)
        try simp only [Act.put, List.setIfInBounds_toArray, List.set_cons_zero, List.set_cons_succ]
        refine wpAnyH_take (i := 6) (v := ?kev6) (by simp only [List.getElem?_toArray, List.getElem?_cons_zero, List.getElem?_cons_succ]; rfl) (by kernel_rfl) (by kernel_rfl) (by kernel_rfl) (fun _ _ _ h => h) (Or.inl ⟨by rfl, ?keh6⟩) hHeld0 ?keq6
        case keh6 => (intro w hSw; (try dsimp only at hSw); go_simp <;> with_reducible rfl)
        try simp only [Act.put, List.setIfInBounds_toArray, List.set_cons_zero, List.set_cons_succ]
        refine wpAnyH_ready (rs := [3]) (by kernel_rfl) (by simp) ?_
        refine AllReadyH.cons (by simp only [List.getElem?_toArray, List.getElem?_cons_zero, List.getElem?_cons_succ]; rfl) (fun K hK => ?_) AllReadyH.nil
        go_simp
        go_at_call 12
        refine (crash_in x.n w w3.drew b F s HMD.out.pl.tp).mono ?_
        rintro r w4 ⟨rfl, hT⟩
        obtain ⟨F4, hM4⟩ := HMD.out.tape hT
        have HM4 := Lib.hid hM4
        clear hT hM4
        refine hK.out _ _ ?kes7 (fun hHeld1 => ?keq7)
        case kes7 => (try dsimp only); exact (box1 HM4.out.box)
        clear hK K
        try simp only [Act.put, List.setIfInBounds_toArray, List.set_cons_zero, List.set_cons_succ]
        refine wpAnyH_ready (rs := [7]) (by kernel_rfl) (by simp) ?_
        refine AllReadyH.cons (by simp only [List.getElem?_toArray, List.getElem?_cons_zero, List.getElem?_cons_succ]; rfl) (fun K hK => ?_) AllReadyH.nil
        go_simp
        go_at_call 22
        refine (rcrash_any x.n w4 w.heap.size b2 G s HOK.out HM4.out.pl.rf).mono ?_
        rintro r w5 ⟨rfl, hR⟩
        obtain ⟨G5, hM5⟩ := HM4.out.ref hR
        have HM5 := Lib.hid hM5
        clear hR hM5
        refine hK.out _ _ ?kes8 (fun hHeld2 => ?keq8)
        case kes8 => (try dsimp only); exact (box1 HM5.out.box)
        clear hK K
        try simp only [Act.put, List.setIfInBounds_toArray, List.set_cons_zero, List.set_cons_succ]
        refine wpAnyH_take (i := 8) (v := ?kev9) (by simp only [List.getElem?_toArray, List.getElem?_cons_zero, List.getElem?_cons_succ]; rfl) (by kernel_rfl) (by kernel_rfl) (by kernel_rfl) (fun _ _ _ h => h) (Or.inl ⟨by rfl, ?keh9⟩) hHeld2 ?keq9
        case keh9 => (intro w hSw; (try dsimp only at hSw); go_simp <;> with_reducible rfl)
        try simp only [Act.put, List.setIfInBounds_toArray, List.set_cons_zero, List.set_cons_succ]
        refine wpAnyH_done (by kernel_rfl) ?_ _
        refine NoPanic.normal ?_
        have hops : (crashS s x.n).ops ≤ s.ops + 1 := by show s.ops ≤ s.ops + 1; omega
        have HM5q := HM5
        have hso0 := (HM5.out.pl.tp.ok).ops0
        generalize (crashS s x.n) = s5 at HM5 HM5q hso0 hops
        clear HM5q
        have HW0 := Lib.hid HM5.out.wiped
        go_wp2_with fail
        go_loopw [12] (fun kv wr => ∃ (j : Nat), j ≤ x.b.length ∧ kv = .int .i64 (j : Int) ∧ WipedA w b b2 s5 F4 G5 wr Aa x.b.length) (fun kv _ => x.b.length - (intOf kv).toNat)
        case atStart => exact ⟨0, by omega, rfl, HW0.out⟩
        case round =>
          obtain ⟨j, hj, rfl, hwp⟩ := hrel
          have HWP := Lib.hid hwp
          clear hwp
          by_cases hjl : (j : Int) < (x.b.length : Int)
          · obtain ⟨g, rfl, hwd⟩ := HWP.out.2 (by omega)
            obtain ⟨cur, hg1, hg2⟩ := hwd.row
            have hj0 : (0 : Int) ≤ (j : Int) := by omega
            obtain ⟨u, hcu⟩ : ∃ u, wr.cell? ⟨g, j, none⟩ = some u := ⟨_, by rw [cell_of_row _ g j _ _ _ hg1]; exact Array.getElem?_eq_getElem (by omega)⟩
            have hfz : wr.frozen? ⟨g, j, none⟩ = false := blk_frozen hg1 j
            have HWD := Lib.hid (hwd.store j (.int .u8 238))
            clear hwd
            go_wp2
            exact ⟨⟨j + 1, by omega, by simp, HWD.out.pl, fun _ => ⟨g, rfl, HWD.out⟩⟩, by simp [intOf]; omega⟩
          · obtain ⟨Ar, cr, hro⟩ := HWP.out.1.rf.open_
            have r2 : wr.drew.cell? ⟨b2, 2, none⟩ = some (.slice Ar s5.l.length cr) := blk_cell hro.blk 2
            have r4 : wr.drew.cell? ⟨b2, 4, none⟩ = some (.int .i64 s5.ops) := blk_cell hro.blk 4
            have r5 : wr.drew.cell? ⟨b2, 5, none⟩ = some (.bool s5.dead) := blk_cell hro.blk 5
            obtain ⟨SL, hSL⟩ : ∃ z, z = strOfNums s5.l := ⟨_, rfl⟩
            have rc : (convert 22 9 (.slice Ar s5.l.length cr)).run Tryd.prog wr.drew = .ok (.string SL) wr.drew := by rw [hSL]; exact str_of (W := wr.drew) (buf_reads hro.buf)
            have heS : (SL.toList == SL.toList) = true := by simp
            have HSL := Lib.hid hSL
            have HRO := Lib.hid hro
            have HTD := Lib.hid (show TapeIn w b s5 wr.drew F4 from ⟨HWP.out.1.tp.at_, HWP.out.1.tp.below.drew, HWP.out.1.tp.laid, HWP.out.1.tp.ok⟩)
            have HRD := Lib.hid (show RefAt wr.drew w.heap.size G5 b2 s5 from HWP.out.1.rf)
            have hjd : decide ((j : Int) < (x.b.length : Int)) = false := by simp; omega
            clear hSL hro
            go_wp2_with fail
            refine wp_region_noPanic ?_
            refine wp_region_held_drew (S := (fun w' => w'.cell? ⟨b2, 2, none⟩ = some (.slice Ar s5.l.length cr) ∧ (convert 22 9 (.slice Ar s5.l.length cr)).run Tryd.prog w' = .ok (.string SL) w' ∧ w'.cell? ⟨b2, 5, none⟩ = some (.bool s5.dead) ∧ w'.cell? ⟨b2, 4, none⟩ = some (.int .i64 s5.ops))) (by kernel_rfl) ?t4s0 (fun hHeld0 => ?t4r0)
            case t4s0 => (try dsimp only); exact ⟨r2, rc, r5, r4⟩
            refine wpAnyH_take (i := 0) (v := ?t4v1) (by simp only [List.getElem?_toArray, List.getElem?_cons_zero, List.getElem?_cons_succ]; rfl) (by kernel_rfl) (by kernel_rfl) (by kernel_rfl) (fun _ _ _ h => h) (Or.inl ⟨by rfl, ?t4h1⟩) hHeld0 ?t4q1
            case t4h1 => (intro w hSw; (try dsimp only at hSw); go_simp <;> with_reducible rfl)
            try simp only [Act.put, List.setIfInBounds_toArray, List.set_cons_zero, List.set_cons_succ]
            refine wpAnyH_take (i := 3) (v := ?t4v2) (by simp only [List.getElem?_toArray, List.getElem?_cons_zero, List.getElem?_cons_succ]; rfl) (by kernel_rfl) (by kernel_rfl) (by kernel_rfl) (fun _ _ _ h => h) (Or.inl ⟨by rfl, ?t4h2⟩) hHeld0 ?t4q2
            case t4h2 => (intro w hSw; (try dsimp only at hSw); go_simp <;> with_reducible rfl)
            try simp only [Act.put, List.setIfInBounds_toArray, List.set_cons_zero, List.set_cons_succ]
            refine wpAnyH_take (i := 4) (v := ?t4v3) (by simp only [List.getElem?_toArray, List.getElem?_cons_zero, List.getElem?_cons_succ]; rfl) (by kernel_rfl) (by kernel_rfl) (by kernel_rfl) (fun _ _ _ h => h) (Or.inl ⟨by rfl, ?t4h3⟩) hHeld0 ?t4q3
            case t4h3 => (intro w hSw; (try dsimp only at hSw); go_simp <;> with_reducible rfl)
            try simp only [Act.put, List.setIfInBounds_toArray, List.set_cons_zero, List.set_cons_succ]
            refine wpAnyH_take (i := 5) (v := ?t4v4) (by simp only [List.getElem?_toArray, List.getElem?_cons_zero, List.getElem?_cons_succ]; rfl) (by kernel_rfl) (by kernel_rfl) (by kernel_rfl) (fun _ _ _ h => h) (Or.inl ⟨by rfl, ?t4h4⟩) hHeld0 ?t4q4
            case t4h4 => (intro w hSw; (try dsimp only at hSw); go_simp <;> with_reducible rfl)
            try simp only [Act.put, List.setIfInBounds_toArray, List.set_cons_zero, List.set_cons_succ]
            refine wpAnyH_take (i := 6) (v := ?t4v5) (by simp only [List.getElem?_toArray, List.getElem?_cons_zero, List.getElem?_cons_succ]; rfl) (by kernel_rfl) (by kernel_rfl) (by kernel_rfl) (fun _ _ _ h => h) (Or.inl ⟨by rfl, ?t4h5⟩) hHeld0 ?t4q5
            case t4h5 => (intro w hSw; (try dsimp only at hSw); go_simp <;> with_reducible rfl)
            try simp only [Act.put, List.setIfInBounds_toArray, List.set_cons_zero, List.set_cons_succ]
            refine wpAnyH_take (i := 7) (v := ?t4v6) (by simp only [List.getElem?_toArray, List.getElem?_cons_zero, List.getElem?_cons_succ]; rfl) (by kernel_rfl) (by kernel_rfl) (by kernel_rfl) (fun _ _ _ h => h) (Or.inl ⟨by rfl, ?t4h6⟩) hHeld0 ?t4q6
            case t4h6 => (intro w hSw; (try dsimp only at hSw); go_simp <;> with_reducible rfl)
            try simp only [Act.put, List.setIfInBounds_toArray, List.set_cons_zero, List.set_cons_succ]
            refine wpAnyH_ready (rs := [1]) (by kernel_rfl) (by simp) ?_
            refine AllReadyH.cons (by simp only [List.getElem?_toArray, List.getElem?_cons_zero, List.getElem?_cons_succ]; rfl) (fun K hK => ?_) AllReadyH.nil
            go_simp
            go_at_call 13
            refine (bytes_in w wr.drew b F4 s5 HTD.out).mono ?_
            rintro r w6 ⟨A6, c6, rfl, hT6, hB6, hv6⟩
            have hR6 := HRD.out.below hB6
            have hk6 := Keep.of_below hB6 (fun _ => False)
            have hb6 := hk6.blk (show wr.drew.heap[b2]? = some _ from HRO.out.blk) (fun h => h)
            have u2 : w6.cell? ⟨b2, 2, none⟩ = some (.slice Ar s5.l.length cr) := blk_cell hb6 2
            have u4 : w6.cell? ⟨b2, 4, none⟩ = some (.int .i64 s5.ops) := blk_cell hb6 4
            have u5 : w6.cell? ⟨b2, 5, none⟩ = some (.bool s5.dead) := blk_cell hb6 5
            have uc : (convert 22 9 (.slice Ar s5.l.length cr)).run Tryd.prog w6 = .ok (.string SL) w6 := by rw [HSL.out]; exact str_of (buf_reads (Buf.keep (w := wr.drew) HRO.out.buf hk6 (fun _ _ h => h)))
            have ud : (convert 22 9 (.slice A6 s5.l.length c6)).run Tryd.prog w6 = .ok (.string SL) w6 := by rw [HSL.out]; exact str_of (buf_reads hv6)
            have HT6 := Lib.hid hT6
            have HP6 := Lib.hid (show PlaysAt w b b2 s5 s5 F4 G5 w6 from ⟨hT6, hR6, HWP.out.1.dis⟩)
            clear hT6 hB6 hv6 hR6 hk6 hb6
            refine hK.out _ _ ?t4s7 (fun hHeld1 => ?t4q7)
            case t4s7 => (try dsimp only); exact ⟨u2, uc, u5, u4⟩
            clear hK K
            try simp only [Act.put, List.setIfInBounds_toArray, List.set_cons_zero, List.set_cons_succ]
            refine wpAnyH_mono (S' := (fun w' => (convert 22 9 (.slice A6 s5.l.length c6)).run Tryd.prog w' = .ok (.string SL) w' ∧ w'.cell? ⟨b2, 2, none⟩ = some (.slice Ar s5.l.length cr) ∧ (convert 22 9 (.slice Ar s5.l.length cr)).run Tryd.prog w' = .ok (.string SL) w' ∧ w'.cell? ⟨b2, 5, none⟩ = some (.bool s5.dead) ∧ w'.cell? ⟨b2, 4, none⟩ = some (.int .i64 s5.ops))) (fun _ h => h.2) ?_
            have hHeld2 := And.intro ud (And.intro u2 (And.intro uc (And.intro u5 u4)))
            refine wpAnyH_take (i := 2) (v := ?t4v8) (by simp only [List.getElem?_toArray, List.getElem?_cons_zero, List.getElem?_cons_succ]; rfl) (by kernel_rfl) (by kernel_rfl) (by kernel_rfl) (fun _ _ _ h => h) (Or.inl ⟨by rfl, ?t4h8⟩) hHeld2 ?t4q8
            case t4h8 => (intro w hSw; (try dsimp only at hSw); go_simp <;> with_reducible rfl)
            try simp only [Act.put, List.setIfInBounds_toArray, List.set_cons_zero, List.set_cons_succ]
            refine wpAnyH_take (i := 8) (v := ?t4v9) (by simp only [List.getElem?_toArray, List.getElem?_cons_zero, List.getElem?_cons_succ]; rfl) (by kernel_rfl) (by kernel_rfl) (by kernel_rfl) (fun _ _ _ h => h) (Or.inl ⟨by rfl, ?t4h9⟩) hHeld2 ?t4q9
            case t4h9 => (intro w hSw; (try dsimp only at hSw); go_simp <;> with_reducible rfl)
            try simp only [Act.put, List.setIfInBounds_toArray, List.set_cons_zero, List.set_cons_succ]
            refine wpAnyH_take (i := 9) (v := ?t4v10) (by simp only [List.getElem?_toArray, List.getElem?_cons_zero, List.getElem?_cons_succ]; rfl) (by kernel_rfl) (by kernel_rfl) (by kernel_rfl) (fun _ _ _ h => h) (Or.inl ⟨by rfl, ?t4h10⟩) hHeld2 ?t4q10
            case t4h10 => (intro w hSw; (try dsimp only at hSw); go_simp <;> with_reducible rfl)
            try simp only [Act.put, List.setIfInBounds_toArray, List.set_cons_zero, List.set_cons_succ]
            refine wpAnyH_take (i := 10) (v := ?t4v11) (by simp only [List.getElem?_toArray, List.getElem?_cons_zero, List.getElem?_cons_succ]; rfl) (by kernel_rfl) (by kernel_rfl) (by kernel_rfl) (fun _ _ _ h => h) (Or.inl ⟨by rfl, ?t4h11⟩) hHeld2 ?t4q11
            case t4h11 => (intro w hSw; (try dsimp only at hSw); go_simp <;> with_reducible rfl)
            try simp only [Act.put, List.setIfInBounds_toArray, List.set_cons_zero, List.set_cons_succ]
            refine wpAnyH_take (i := 12) (v := ?t4v12) (by simp only [List.getElem?_toArray, List.getElem?_cons_zero, List.getElem?_cons_succ]; rfl) (by kernel_rfl) (by kernel_rfl) (by kernel_rfl) (fun _ _ _ h => h) (Or.inl ⟨by rfl, ?t4h12⟩) hHeld2 ?t4q12
            case t4h12 => (intro w hSw; (try dsimp only at hSw); go_simp <;> with_reducible rfl)
            try simp only [Act.put, List.setIfInBounds_toArray, List.set_cons_zero, List.set_cons_succ]
            refine wpAnyH_take (i := 13) (v := ?t4v13) (by simp only [List.getElem?_toArray, List.getElem?_cons_zero, List.getElem?_cons_succ]; rfl) (by kernel_rfl) (by kernel_rfl) (by kernel_rfl) (fun _ _ _ h => h) (Or.inl ⟨by rfl, ?t4h13⟩) hHeld2 ?t4q13
            case t4h13 => (intro w hSw; (try dsimp only at hSw); go_simp <;> with_reducible rfl)
            try simp only [Act.put, List.setIfInBounds_toArray, List.set_cons_zero, List.set_cons_succ]
            refine wpAnyH_take (i := 14) (v := ?t4v14) (by simp only [List.getElem?_toArray, List.getElem?_cons_zero, List.getElem?_cons_succ]; rfl) (by kernel_rfl) (by kernel_rfl) (by kernel_rfl) (fun _ _ _ h => h) (Or.inl ⟨by rfl, ?t4h14⟩) hHeld2 ?t4q14
            case t4h14 => (intro w hSw; (try dsimp only at hSw); go_simp <;> with_reducible rfl)
            try simp only [Act.put, List.setIfInBounds_toArray, List.set_cons_zero, List.set_cons_succ]
            refine wpAnyH_take (i := 15) (v := ?t4v15) (by simp only [List.getElem?_toArray, List.getElem?_cons_zero, List.getElem?_cons_succ]; rfl) (by kernel_rfl) (by kernel_rfl) (by kernel_rfl) (fun _ _ _ h => h) (Or.inl ⟨by rfl, ?t4h15⟩) hHeld2 ?t4q15
            case t4h15 => (intro w hSw; (try dsimp only at hSw); go_simp <;> with_reducible rfl)
            try simp only [Act.put, List.setIfInBounds_toArray, List.set_cons_zero, List.set_cons_succ]
            refine wpAnyH_ready (rs := [11]) (by kernel_rfl) (by simp) ?_
            refine AllReadyH.cons (by simp only [List.getElem?_toArray, List.getElem?_cons_zero, List.getElem?_cons_succ]; rfl) (fun K hK => ?_) AllReadyH.nil
            go_simp
            go_at_call 23
            refine (dead_any w6 w.heap.size b F4 s5 HT6.out.at_).mono ?_
            rintro r w7 ⟨rfl, rfl⟩
            refine hK.out _ _ ?t4s16 (fun hHeld3 => ?t4q16)
            case t4s16 => (try dsimp only); exact ⟨ud, u2, uc, u5, u4⟩
            clear hK K
            try simp only [Act.put, List.setIfInBounds_toArray, List.set_cons_zero, List.set_cons_succ]
            refine wpAnyH_take (i := 16) (v := ?t4v17) (by simp only [List.getElem?_toArray, List.getElem?_cons_zero, List.getElem?_cons_succ]; rfl) (by kernel_rfl) (by kernel_rfl) (by kernel_rfl) (fun _ _ _ h => h) (Or.inl ⟨by rfl, ?t4h17⟩) hHeld3 ?t4q17
            case t4h17 => (intro w hSw; (try dsimp only at hSw); go_simp <;> with_reducible rfl)
            try simp only [Act.put, List.setIfInBounds_toArray, List.set_cons_zero, List.set_cons_succ]
            refine wpAnyH_take (i := 17) (v := ?t4v18) (by simp only [List.getElem?_toArray, List.getElem?_cons_zero, List.getElem?_cons_succ]; rfl) (by kernel_rfl) (by kernel_rfl) (by kernel_rfl) (fun _ _ _ h => h) (Or.inl ⟨by rfl, ?t4h18⟩) hHeld3 ?t4q18
            case t4h18 => (intro w hSw; (try dsimp only at hSw); go_simp <;> with_reducible rfl)
            try simp only [Act.put, List.setIfInBounds_toArray, List.set_cons_zero, List.set_cons_succ]
            refine wpAnyH_take (i := 18) (v := ?t4v19) (by simp only [List.getElem?_toArray, List.getElem?_cons_zero, List.getElem?_cons_succ]; rfl) (by kernel_rfl) (by kernel_rfl) (by kernel_rfl) (fun _ _ _ h => h) (Or.inl ⟨by rfl, ?t4h19⟩) hHeld3 ?t4q19
            case t4h19 => (intro w hSw; (try dsimp only at hSw); go_simp <;> with_reducible rfl)
            try simp only [Act.put, List.setIfInBounds_toArray, List.set_cons_zero, List.set_cons_succ]
            refine wpAnyH_take (i := 19) (v := ?t4v20) (by simp only [List.getElem?_toArray, List.getElem?_cons_zero, List.getElem?_cons_succ]; rfl) (by kernel_rfl) (by kernel_rfl) (by kernel_rfl) (fun _ _ _ h => h) (Or.inl ⟨by rfl, ?t4h20⟩) hHeld3 ?t4q20
            case t4h20 => (intro w hSw; (try dsimp only at hSw); go_simp <;> with_reducible rfl)
            try simp only [Act.put, List.setIfInBounds_toArray, List.set_cons_zero, List.set_cons_succ]
            refine wpAnyH_take (i := 21) (v := ?t4v21) (by simp only [List.getElem?_toArray, List.getElem?_cons_zero, List.getElem?_cons_succ]; rfl) (by kernel_rfl) (by kernel_rfl) (by kernel_rfl) (fun _ _ _ h => h) (Or.inl ⟨by rfl, ?t4h21⟩) hHeld3 ?t4q21
            case t4h21 => (intro w hSw; (try dsimp only at hSw); go_simp <;> with_reducible rfl)
            try simp only [Act.put, List.setIfInBounds_toArray, List.set_cons_zero, List.set_cons_succ]
            refine wpAnyH_take (i := 22) (v := ?t4v22) (by simp only [List.getElem?_toArray, List.getElem?_cons_zero, List.getElem?_cons_succ]; rfl) (by kernel_rfl) (by kernel_rfl) (by kernel_rfl) (fun _ _ _ h => h) (Or.inl ⟨by rfl, ?t4h22⟩) hHeld3 ?t4q22
            case t4h22 => (intro w hSw; (try dsimp only at hSw); go_simp <;> with_reducible rfl)
            try simp only [Act.put, List.setIfInBounds_toArray, List.set_cons_zero, List.set_cons_succ]
            refine wpAnyH_take (i := 23) (v := ?t4v23) (by simp only [List.getElem?_toArray, List.getElem?_cons_zero, List.getElem?_cons_succ]; rfl) (by kernel_rfl) (by kernel_rfl) (by kernel_rfl) (fun _ _ _ h => h) (Or.inl ⟨by rfl, ?t4h23⟩) hHeld3 ?t4q23
            case t4h23 => (intro w hSw; (try dsimp only at hSw); go_simp <;> with_reducible rfl)
            try simp only [Act.put, List.setIfInBounds_toArray, List.set_cons_zero, List.set_cons_succ]
            refine wpAnyH_take (i := 24) (v := ?t4v24) (by simp only [List.getElem?_toArray, List.getElem?_cons_zero, List.getElem?_cons_succ]; rfl) (by kernel_rfl) (by kernel_rfl) (by kernel_rfl) (fun _ _ _ h => h) (Or.inl ⟨by rfl, ?t4h24⟩) hHeld3 ?t4q24
            case t4h24 => (intro w hSw; (try dsimp only at hSw); go_simp <;> with_reducible rfl)
            try simp only [Act.put, List.setIfInBounds_toArray, List.set_cons_zero, List.set_cons_succ]
            refine wpAnyH_ready (rs := [20]) (by kernel_rfl) (by simp) ?_
            refine AllReadyH.cons (by simp only [List.getElem?_toArray, List.getElem?_cons_zero, List.getElem?_cons_succ]; rfl) (fun K hK => ?_) AllReadyH.nil
            go_simp
            go_at_call 24
            refine (ops_any w6 w.heap.size b F4 s5 HT6.out.at_).mono ?_
            rintro r w7 ⟨rfl, rfl⟩
            refine hK.out _ _ ?t4s25 (fun hHeld4 => ?t4q25)
            case t4s25 => (try dsimp only); exact ⟨ud, u2, uc, u5, u4⟩
            clear hK K
            try simp only [Act.put, List.setIfInBounds_toArray, List.set_cons_zero, List.set_cons_succ]
            refine wpAnyH_take (i := 25) (v := ?t4v26) (by simp only [List.getElem?_toArray, List.getElem?_cons_zero, List.getElem?_cons_succ]; rfl) (by kernel_rfl) (by kernel_rfl) (by kernel_rfl) (fun _ _ _ h => h) (Or.inl ⟨by rfl, ?t4h26⟩) hHeld4 ?t4q26
            case t4h26 => (intro w hSw; (try dsimp only at hSw); go_simp <;> with_reducible rfl)
            try simp only [Act.put, List.setIfInBounds_toArray, List.set_cons_zero, List.set_cons_succ]
            refine wpAnyH_take (i := 26) (v := ?t4v27) (by simp only [List.getElem?_toArray, List.getElem?_cons_zero, List.getElem?_cons_succ]; rfl) (by kernel_rfl) (by kernel_rfl) (by kernel_rfl) (fun _ _ _ h => h) (Or.inl ⟨by rfl, ?t4h27⟩) hHeld4 ?t4q27
            case t4h27 => (intro w hSw; (try dsimp only at hSw); go_simp <;> with_reducible rfl)
            try simp only [Act.put, List.setIfInBounds_toArray, List.set_cons_zero, List.set_cons_succ]
            refine wpAnyH_done (by kernel_rfl) ?_ _
            refine NoPanic.normal ?_
            go_wp2_with fail
            exact ⟨⟨k + 1, s5, F4, G5, by omega, by omega, by simp, HP6.out, hso0, by push_cast; omega⟩, by simp [intOf]; omega⟩
    · have ht : ¬ (k < cs.length) ∨ (k < cs.length ∧ (100 : Int) ≤ (k : Int)) := by
        by_cases h1 : k < cs.length
        · exact .inr ⟨h1, by omega⟩
        · exact .inl h1
      rcases ht with ht | ⟨ht0, ht⟩
      all_goals
        go_wp2_with fail
        go_ret
        exact ⟨rfl, HP.out.tp.below⟩
theorem plays_row (a0 : Int) (a1 : Option Addr) (cap1 : Nat) (l1 : List Cl) (w : World) (hg : Laid w) (w0 : (Lit.int .i64 a0).wf = true) (hr1 : clK.C w a1 l1.length l1) (_ : l1.length ≤ cap1) :
    Calls Tryd.prog 7 #[.int .i64 a0, .slice a1 l1.length cap1] w fun e w' => e = .returned (.bool true) ∧ Below w.heap.size w w' := plays_any a0 a1 cap1 l1 w hg hr1
end Go.Proofs.YtjjlojaaefipmaaDoor
