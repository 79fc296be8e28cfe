/- Rows of the law's own beside a net: what a call on the net, and what an append, leaves of them. -/
import Derived.Test.YtepmnkelfaiapaaCallsK
import Derived.Deep.RegionLaw
set_option linter.unusedVariables false
set_option linter.unusedSimpArgs false
namespace Go.Proofs.Ytepmnkelfaiapaa
open Go.RowKit Go.Proofs.YtepmnkelfaiapaaW.PrintWords Go.Proofs.Mine

/-- A message as the law tells it. -/
def Pm.own (m : Pm) : List Value := [.int .i64 m.f, .int .i64 m.t, .int .i64 m.i]
def gmK : Kd Pm := Mine.Kd.fixed Pm.own 3 (fun _ => rfl) (fun m u hu => by simp only [Pm.own, List.mem_cons, List.not_mem_nil, or_false] at hu; rcases hu with rfl | rfl | rfl <;> rfl)
theorem Try.info48 : (Try.prog.info? 48).map (fun i => (i.zero, i.size, i.bytes)) = some (some (.agg #[.int .i64 0, .int .i64 0, .int .i64 0]), 3, 24) := by kernel_rfl
theorem Try.info3n : (Try.prog.info? 3).map (fun i => (i.zero, i.size, i.bytes)) = some (some (.int .i64 0), 1, 8) := by kernel_rfl
theorem Try.size48 (w : World) : (sizeOf 48).run Try.prog w = .ok 3 w := by kernel_rfl
theorem gm_front {c k : Nat} (hk : k ≤ c) (A : Option Addr) (n : Nat) (W : World) :
    (Instr.slice 44 (.slice A n c) none (some (.int .i64 (k : Int))) none).run Try.prog W = .ok (.slice A k c) W := by
  simp [Instr.slice, run_underlying Try.underlying44, Instr.sliceBounds, Instr.sliceBound, asIntOf, Try.size48]
  rw [if_pos hk]
  by_cases h : c = 0
  · simp [h]
  · cases A <;> simp [h, Addr.add]
theorem gm_back {w : World} {A : Option Addr} {c i : Nat} {l : List Pm} (h : gmK.C w A l.length l) (hc : l.length ≤ c) (hi : i < l.length) :
    ∃ A2 c2, (∀ W, (Instr.slice 44 (.slice A l.length c) (some (.int .i64 ((i : Int) + 1))) none none).run Try.prog W = .ok (.slice A2 (l.length - (i + 1)) c2) W) ∧ gmK.C w A2 (l.length - (i + 1)) (l.drop (i + 1)) := by
  obtain ⟨j, hj⟩ : ∃ j, Try.prog.info? 48 = some j ∧ j.size = 3 := by
    have h := Try.info48
    obtain ⟨j, h1, h2⟩ := Option.map_eq_some_iff.1 h
    simp only [Prod.mk.injEq] at h2
    exact ⟨j, h1, h2.2.1⟩
  have hd := Kd.C_drop (m := i + 1) h (by omega) hc
  rw [List.length_drop] at hd
  refine ⟨_, c - (i + 1), fun W => ?_, hd⟩
  have hel : Try.prog.elem 44 = 48 := by simp [Program.elem, Try.underlying44]
  have hu : Try.prog.underlying 44 = some (.slice (Try.prog.elem 44)) := by rw [hel]; exact Try.underlying44
  have e : (i : Int) + 1 = ((i + 1 : Nat) : Int) := by omega
  rw [e, run_slice_l W 44 A l.length c hu .i64 ((i + 1 : Nat) : Int) (Int.natCast_nonneg _) (by omega), hel]
  simp [sizeOf, typeInfo, hj.1, hj.2, sliced, Result.andThen, gmK, Mine.Kd.fixed]

/-- A net of the law's own, the law's own list of what is under way, its own copy of the one side. -/
structure PlayIn (w0 : World) (b : Nat) (s : NSt) (w : World) (F : Nat → Prop) (lv : Value) (l : List Pm) (sv : Value) (sd : List Int) : Prop where
  net : NetIn w0 b s w F
  row : gmK.R 48 w w0.heap.size (fun k => ¬ F k) lv l
  side : w.ownsRow w0.heap.size 3 1 sv sd.length (nums .i64 sd)
  away : ∀ k, sv.ownBlock = some k → ¬ F k
namespace PlayIn
variable {w0 w w' : World} {b : Nat} {s s' : NSt} {F : Nat → Prop} {lv lv' sv sv' : Value} {l l' : List Pm} {sd sd' : List Int}
theorem lt (h : PlayIn w0 b s w F lv l sv sd) {k : Nat} (hk : F k) : k < w.heap.size := (h.net.1.2.1 k hk).2
theorem keep {G : Nat → Prop} (h : PlayIn w0 b s w F lv l sv sd) (hk : Keep G w w') (hg : ∀ k, G k → w0.heap.size ≤ k ∧ ¬ F k ∧ lv.ownBlock ≠ some k ∧ sv.ownBlock ≠ some k) : PlayIn w0 b s w' F lv l sv sd := by
  refine ⟨h.net.keep hk (fun k hG => ⟨(hg k hG).1, (hg k hG).2.1⟩), ?_, hk.own h.side (fun k hk' hG => (hg k hG).2.2.2 hk'), h.away⟩
  obtain ⟨h1, inner, ho, hr⟩ := h.row
  exact ⟨h1, inner, hk.own ho (fun k hk' hG => (hg k hG).2.2.1 hk'), hr⟩
theorem other (h : PlayIn w0 b s w F lv l sv sd) (hk : Keep (fun _ => False) w w') : PlayIn w0 b s w' F lv l sv sd := h.keep hk (fun _ h => h.elim)
theorem alloc (h : PlayIn w0 b s w F lv l sv sd) (o : Obj) : PlayIn w0 b s (w.alloc o) F lv l sv sd := h.other ((Keep.refl _ w).alloc o)
theorem drewN (h : PlayIn w0 b s w F lv l sv sd) (n : Nat) : PlayIn w0 b s (w.drewN n) F lv l sv sd := h.other ((Keep.refl _ w).drewN n)
theorem step (h : PlayIn w0 b s w F lv l sv sd) (hs : Net' w w0.heap.size F b s' w') : ∃ F', PlayIn w0 b s' w' F' lv l sv sd := by
  obtain ⟨F', h1, h2, h3⟩ := h.net.step hs
  refine ⟨F', h1, ?_, h3.own h.side h.away, ?_⟩
  · exact Kd.R_mono (h3.R (Kd.R_bound h.row) (fun k hk => hk.1)) (fun k hk hF => by
      rcases h2 k hF with h4 | h4
      · exact hk.1 h4
      · have := hk.2.2.1; omega)
  · intro k hk hF
    rcases h2 k hF with h4 | h4
    · exact h.away k hk h4
    · have := own_lt h.side k hk; omega
theorem become (h : PlayIn w0 b s w F lv l sv sd) (hs : NetIn w0 b s' w' F) (hk : Keep F w w') : PlayIn w0 b s' w' F lv l sv sd := by
  refine ⟨hs, hk.R h.row (fun k hk => hk), hk.own h.side h.away, h.away⟩
/-- A new row in the list's place. -/
theorem newrow {ok : Nat → Prop} (h : PlayIn w0 b s w F lv l sv sd) (hk : Keep (fun _ => False) w w') (hr : gmK.R 48 w' w.heap.size ok lv' l') : PlayIn w0 b s w' F lv' l' sv sd := by
  have h1 := h.other hk
  refine ⟨h1.net, Kd.R_lower (Kd.R_mono (Kd.R_bound hr) (fun k hk hF => ?_)) h.net.2.size, h1.side, h1.away⟩
  have := h.lt hF
  have := hk.2.1
  omega
theorem newside (h : PlayIn w0 b s w F lv l sv sd) (hk : Keep (fun _ => False) w w') (hr : w'.ownsRow w.heap.size 3 1 sv' sd'.length (nums .i64 sd')) : PlayIn w0 b s w' F lv l sv' sd' := by
  have h1 := h.other hk
  refine ⟨h1.net, h1.row, own_less hr h.net.2.size, fun k hk hF => ?_⟩
  have := h.lt hF
  have := own_base hr k hk
  omega
/-- The list has been appended to. -/
theorem grow (h : PlayIn w0 b s w F lv l sv sd) (hg : w.grownBy w' lv.ownBlock) (hr : gmK.R 48 w' w0.heap.size (fun k => ¬ F k ∨ w.heap.size ≤ k) lv' l') : PlayIn w0 b s w' F lv' l' sv sd := by
  have hk : Keep (fun k => lv.ownBlock = some k) w w' := Keep.of_grown hg (fun k hk => hk)
  refine ⟨h.net.keep hk (fun k hk' => ⟨?_, h.row.1 k hk'⟩), Kd.R_mono hr (fun k hk hF => ?_), hk.own h.side (fun k hk' hG => ?_), h.away⟩
  · obtain ⟨inner, ho⟩ := Kd.R_own h.row
    exact own_base ho k hk'
  · rcases hk with h1 | h1
    · exact h1 hF
    · have := h.lt hF; omega
  · obtain ⟨inner, ho⟩ := Kd.R_own h.row
    rcases own_type_ne h.side ho (by decide) with h1 | h1
    · rw [h1] at hk'; cases hk'
    · exact h1 (hk'.trans hG.symm)
end PlayIn
/-- A row of none, made. -/
theorem gm_empty (W : World) : gmK.R 48 (W.alloc (.cells #[] 48)) W.heap.size (fun _ => True) (.slice (some ⟨W.heap.size, 0, none⟩) 0 0) [] := by
  have h := World.ownsRow_lit (base := W.heap.size) (e := 48) (size := 3) W #[] 0 (Nat.le_refl _) (by decide) (by simp)
  exact ⟨fun _ _ => trivial, [], h, by simp, fun j p hj => by simp at hj⟩
theorem int_empty (W : World) : (W.alloc (.cells #[] 3)).ownsRow W.heap.size 3 1 (.slice (some ⟨W.heap.size, 0, none⟩) 0 0) ([] : List Int).length (nums .i64 []) := own_lit W W.heap.size 3 .i64 [] (Nat.le_refl _) (by decide)
/-- The cells of an element of the list. -/
theorem gm_at {W : World} {B g cap : Nat} {ok : Nat → Prop} {l : List Pm} (h : gmK.R 48 W B ok (.slice (some ⟨g, 0, none⟩) l.length cap) l) {i : Nat} {m : Pm} (hm : l[i]? = some m) :
    W.cell? ⟨g, i * 3, none⟩ = some (.int .i64 m.f) ∧ W.cell? ⟨g, i * 3 + 1, none⟩ = some (.int .i64 m.t) ∧ W.cell? ⟨g, i * 3 + 2, none⟩ = some (.int .i64 m.i) := by
  obtain ⟨_, _, hC⟩ := Kd.R_reads' h
  obtain ⟨hl, hx⟩ := List.getElem?_eq_some_iff.1 hm
  obtain ⟨ad, hA, hc⟩ := hC.2.2 (by omega)
  injection hA with hA
  subst hA
  obtain ⟨cs, h2, h1, h3⟩ := hc i m hm
  have h1' : cs = m.own := h1
  subst h1'
  have h4 : ∀ j u, m.own[j]? = some u → W.cell? ⟨g, i * 3 + j, none⟩ = some u := fun j u hu => by
    have := h3 j u hu
    rwa [show ((⟨g, 0, none⟩ : Addr).add (i * gmK.sz + j)) = ⟨g, i * 3 + j, none⟩ from add_plain _ _] at this
  exact ⟨h4 0 _ rfl, h4 1 _ rfl, h4 2 _ rfl⟩
def SideIs (s : NSt) (sd : List Int) (on : Bool) : Prop := ∀ f t, cutS s.side f t = cutLaw sd on f t
theorem SideIs.of_eq {s s' : NSt} {sd : List Int} {on : Bool} (h : SideIs s sd on) (hs : s'.side = s.side) : SideIs s' sd on := fun f t => by rw [hs]; exact h f t
theorem sideIs_cut (s : NSt) (sd : List Int) : SideIs (cutL s sd) sd true := fun f t => rfl
theorem sideIs_heal (l : List Pm) (n : Int) (sd : List Int) : SideIs ⟨l, none, n⟩ sd false := fun f t => rfl
/-- The same messages by the law's own test. -/
theorem cutL_law (s : NSt) (sd : List Int) : (cutL s sd).l = s.l.filter (fun m => !cutLaw sd true m.f m.t) := rfl
section
variable {w0 w : World} {b : Nat} {s : NSt} {F : Nat → Prop} {lv sv : Value} {l : List Pm} {sd : List Int}
theorem play_send (m : Pm) (h : PlayIn w0 b s w F lv l sv sd) (h1 : s.l.length + 1 ≤ 100000) (h2 : 0 ≤ s.lost) (h3 : s.lost + 1 ≤ 1000000) :
    Calls Try.prog 10 #[.pointer (some ⟨b, 0, none⟩), .slice (some ⟨w.heap.size, 0, none⟩) 1 1] (w.alloc (.cells m.cells.toArray 32)) fun e w' => e = .returned (.tuple #[]) ∧ ∃ F', PlayIn w0 b (send1 s m) w' F' lv l sv sd := by
  have hC := lit_msgs w [m] 1 rfl (by decide) m.cells.toArray (by simp)
  refine (send_any _ w0.heap.size F b s (some ⟨w.heap.size, 0, none⟩) 1 [m] (h.alloc _).net.1 hC (fun ad h1 h2 => by cases h1; have := (h.net.1.2.1 _ h2).2; simp at this) (by simpa using h1) h2 (by simpa using h3)).mono ?_
  rintro e w' ⟨rfl, hN⟩
  obtain ⟨F', hN'⟩ := (h.alloc _).step hN
  exact ⟨rfl, F', hN'⟩
theorem play_deliver (k : Int) (h : PlayIn w0 b s w F lv l sv sd) (hl : s.l.length < 100000) :
    Calls Try.prog 12 #[.pointer (some ⟨b, 0, none⟩), .int .i64 k] w fun e w' => e = .returned (gotV s k) ∧ ∃ F', PlayIn w0 b (dels s k) w' F' lv l sv sd := by
  refine (deliver_any w w0.heap.size F b s k h.net.1 (by omega)).mono ?_
  rintro e w' ⟨rfl, hN⟩
  exact ⟨rfl, h.step hN⟩
theorem play_drop (k : Int) (h : PlayIn w0 b s w F lv l sv sd) (hl : s.l.length < 100000) (h0 : 0 ≤ s.lost) (h1 : s.lost < 100000) :
    Calls Try.prog 14 #[.pointer (some ⟨b, 0, none⟩), .int .i64 k] w fun e w' => e = .returned (.int .i64 (codeOf s k)) ∧ ∃ F', PlayIn w0 b (drops s k) w' F' lv l sv sd := by
  refine (drop_any w w0.heap.size F b s k h.net.1 (by omega) h0 (by omega)).mono ?_
  rintro e w' ⟨rfl, hN⟩
  exact ⟨rfl, h.step hN⟩
theorem play_double (k : Int) (h : PlayIn w0 b s w F lv l sv sd) (hl : s.l.length < 100000) :
    Calls Try.prog 15 #[.pointer (some ⟨b, 0, none⟩), .int .i64 k] w fun e w' => e = .returned (.int .i64 (codeOf s k)) ∧ ∃ F', PlayIn w0 b (dbls s k) w' F' lv l sv sd := by
  refine (double_any w w0.heap.size F b s k h.net.1 (by omega)).mono ?_
  rintro e w' ⟨rfl, hN⟩
  exact ⟨rfl, h.step hN⟩
theorem play_heal (h : PlayIn w0 b s w F lv l sv sd) :
    Calls Try.prog 18 #[.pointer (some ⟨b, 0, none⟩)] w fun e w' => e = .returned (.tuple #[]) ∧ ∃ F', PlayIn w0 b ⟨s.l, none, s.lost⟩ w' F' lv l sv sd := by
  refine (heal_any w w0.heap.size F b s h.net.1).mono ?_
  rintro e w' ⟨rfl, rfl⟩
  exact ⟨rfl, h.step (net_heal h.net.1)⟩
theorem play_law (f t : Int) (on : Bool) {A : Option Addr} {c : Nat} (h : PlayIn w0 b s w F lv l (.slice A sd.length c) sd) :
    Calls Try.prog 17 #[.slice A sd.length c, .bool on, .int .i64 f, .int .i64 t] w fun e w' => e = .returned (.bool (cutLaw sd on f t)) ∧ PlayIn w0 b s w' F lv l (.slice A sd.length c) sd ∧ Below w.heap.size w w' := by
  refine (cutLaw_any A c sd on f t w (own_reads' h.side)).mono ?_
  rintro e w' ⟨rfl, hB⟩
  exact ⟨rfl, h.other (Keep.of_below hB _), hB⟩
end
/-- Cut, the one side being a row of the law's own that is new (from B on). -/
theorem play_cut {w0 w : World} {b B : Nat} {s : NSt} {F : Nat → Prop} {lv sv : Value} {l : List Pm} {sd : List Int} {A : Option Addr} {c : Nat} {side : List Int} (h : PlayIn w0 b s w F lv l sv sd) (hm : w.ownsRow B 3 1 (.slice A side.length c) side.length (nums .i64 side)) (hFB : ∀ k, F k → k < B)
    (hl : s.l.length < 100000) (h0 : 0 ≤ s.lost) (h1 : s.lost < 100000) :
    Calls Try.prog 16 #[.pointer (some ⟨b, 0, none⟩), .slice A side.length c] w fun e w' => e = .returned (.tuple #[]) ∧ ∃ F', PlayIn w0 b (cutL s side) w' F' lv l sv sd ∧ w'.ownsRow B 3 1 (.slice A side.length c) side.length (nums .i64 side) ∧ (∀ k, F' k → F k ∨ w.heap.size ≤ k) ∧ Keep F w w' := by
  have hA : ∀ ad, A = some ad → B ≤ ad.block ∧ ad.block < w.heap.size := fun ad ha => by subst ha; exact ⟨own_base hm _ rfl, own_lt hm _ rfl⟩
  refine (netCut_any w w0.heap.size F b s A c side h.net.1 (own_reads' hm) (fun ad ha _ hF => by have := hA ad ha; have := hFB _ hF; omega) (by omega) h0 (by omega)).mono ?_
  rintro e w' ⟨rfl, F', n1, n2, n3⟩
  have hN : Net' w w0.heap.size F b (cutL s side) w' := ⟨F', n1, n2, n3⟩
  refine ⟨rfl, F', ⟨⟨n1, h.net.2.trans (n3.to_below (by have := h.net.2.size; omega) (fun k hk => (h.net.1.2.1 k hk).1))⟩, ?_, n3.own h.side h.away, ?_⟩, n3.own hm ?_, n2, n3⟩
  · exact Kd.R_mono (n3.R (Kd.R_bound h.row) (fun k hk => hk.1)) (fun k hk hF => by
      rcases n2 k hF with h4 | h4
      · exact hk.1 h4
      · have := hk.2.2.1; omega)
  · intro k hk hF
    rcases n2 k hF with h4 | h4
    · exact h.away k hk h4
    · have := own_lt h.side k hk; omega
  · intro k hk hF
    have := own_base hm k hk
    have := hFB k hF
    omega
theorem cutL_sums (s : NSt) (side : List Int) : (cutL s side).lost + ((cutL s side).l.length : Int) = s.lost + (s.l.length : Int) ∧ s.lost ≤ (cutL s side).lost := by
  have h := List.length_filter_le (stays { s with side := some (sideOf side) }) s.l
  have h2 : (cutL s side).lost = s.lost + ((s.l.length : Int) - ((cutL s side).l.length : Int)) := rfl
  have h3 : (cutL s side).l.length ≤ s.l.length := h
  omega
theorem filter_snoc {p : Pm → Bool} {l : List Pm} {j : Nat} {m : Pm} (hm : l[j]? = some m) : (l.take (j + 1)).filter p = (l.take j).filter p ++ (if p m then [m] else []) := by
  obtain ⟨hl, hx⟩ := List.getElem?_eq_some_iff.1 hm
  rw [List.take_succ_eq_append_getElem hl, hx, List.filter_append]
  cases hp : p m <;> simp [hp]
theorem gm_made {W : World} {g B : Nat} (h : W.heap[g]? = some (.cells #[] 48 (0, 0))) (hB : B ≤ g) : gmK.R 48 W B (fun _ => True) (.slice (some ⟨g, 0, none⟩) 0 0) [] :=
  ⟨fun _ _ => trivial, [], ⟨by simp, .inr ⟨g, 0, #[], rfl, hB, h, by simp, by decide, by simp, by simp⟩⟩, by simp, fun j p hj => by simp at hj⟩
theorem gm_box {W : World} {g : Nat} {m : Pm} (h : W.heap[g]? = some (.cells #[.int .i64 m.f, .int .i64 m.t, .int .i64 m.i] 48 (0, 0))) : gmK.C W (some ⟨g, 0, none⟩) 1 [m] := by
  refine ⟨rfl, by decide, fun _ => ⟨_, rfl, fun j p hp => ?_⟩⟩
  rcases j with _ | j
  · obtain rfl : m = p := by simpa using hp
    refine ⟨m.own, rfl, rfl, fun i u hu => ?_⟩
    have e : (⟨g, 0, none⟩ : Addr).add (0 * 3 + i) = ⟨g, i, none⟩ := by rw [add_plain]; simp
    show W.cell? ((⟨g, 0, none⟩ : Addr).add (0 * 3 + i)) = some u
    rw [e, blk_cell h i]
    simpa [Pm.own] using hu
  · simp at hp
theorem gm_far (W W' : World) (X Y : Obj) (h : W'.heap = ((W.alloc X).alloc Y).heap) (ho : W'.os = W.os) (ht : W'.tape = W.tape) (hp : W'.output = W.output) : Below W.heap.size W W' := by
  have h1 : Below W.heap.size W ((W.alloc X).alloc Y) := ((Below.refl _ _).alloc (Nat.le_refl _) _).alloc (by simp) _
  exact ⟨ho, ht, hp, by rw [h]; exact h1.size, fun k hk => by rw [h]; exact h1.block k hk⟩
theorem gm_world (W W' : World) (h : W'.heap = (W.alloc (.cells #[] 48)).heap) (ho : W'.os = W.os) (ht : W'.tape = W.tape) (hp : W'.output = W.output) : Below W.heap.size W W' :=
  ⟨ho, ht, hp, by rw [h]; simp, fun k hk => by rw [h]; exact Below.heap_alloc W _ k hk⟩
theorem gm_take {W : World} {A : Option Addr} {l : List Pm} {i : Nat} (h : gmK.C W A l.length l) (hi : i ≤ l.length) : gmK.C W A i (l.take i) := by
  have h1 := Kd.C_take h hi
  rwa [show (l.take i).length = i from by rw [List.length_take]; omega] at h1
/-- The list's own form. -/
theorem PlayIn.form {w0 w : World} {b : Nat} {s : NSt} {F : Nat → Prop} {A : Option Addr} {c : Nat} {l : List Pm} {sv : Value} {sd : List Int} (h : PlayIn w0 b s w F (.slice A l.length c) l sv sd) (hl : l.length ≠ 0) :
    ∃ g, A = some ⟨g, 0, none⟩ ∧ l.length ≤ c ∧ gmK.C w (some ⟨g, 0, none⟩) l.length l := by
  rcases fixR_iff.1 h.row with ⟨_, hx⟩ | ⟨g, cap, cur, h1, _, _, _, h2, _, _, _⟩
  · rw [hx] at hl; exact absurd rfl hl
  · injection h1 with h1 h3 h4
    subst h1 h4
    exact ⟨g, rfl, h2, (Kd.R_reads' h.row).2.2⟩
theorem send_stays {s : NSt} {m : Pm} (h : cutS s.side m.f m.t = false) : (send1 s m).l = s.l ++ [m] ∧ (send1 s m).lost = s.lost ∧ (send1 s m).side = s.side := by unfold send1; rw [h]; exact ⟨rfl, rfl, rfl⟩
theorem send_lost {s : NSt} {m : Pm} (h : cutS s.side m.f m.t = true) : (send1 s m).l = s.l ∧ (send1 s m).lost = s.lost + 1 ∧ (send1 s m).side = s.side := by unfold send1; rw [h]; exact ⟨rfl, rfl, rfl⟩
end Go.Proofs.Ytepmnkelfaiapaa
