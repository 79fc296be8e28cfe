/- Votes and Prepare of an acceptor with any votes. -/
import Derived.Test.YtgkhkcoojfjofaaDoorSrtV
set_option linter.unusedVariables false
set_option linter.unusedSimpArgs false
namespace Go.Proofs.YtgkhkcoojfjofaaDoor
open Go.RowKit Go.Shelf Go.Proofs.YtgkhkcoojfjofaaDoorW.PrintWords Go.Proofs.Mine

theorem nodup_bound (n : Nat) (l : List Int) (hd : l.Nodup) (h : ∀ x ∈ l, 1 ≤ x ∧ x ≤ (n : Int)) : l.length ≤ n := by
  induction n generalizing l with
  | zero =>
    cases l with
    | nil => exact Nat.le_refl _
    | cons a t => have := h a (by simp); omega
  | succ n ih =>
    have h1 := ih (l.erase ((n : Int) + 1)) (hd.erase _) (fun x hx => by
      have h2 := (hd.mem_erase_iff).1 hx
      have h3 := h x h2.2
      have h4 := h2.1
      omega)
    rw [List.length_erase] at h1
    split at h1 <;> omega
theorem nodup_inj {α β : Type} {f : α → β} {l : List α} (h : (l.map f).Nodup) {a b : α} (ha : a ∈ l) (hb : b ∈ l) (e : f a = f b) : a = b := by
  induction l with
  | nil => cases ha
  | cons c t ih =>
    simp only [List.map_cons, List.nodup_cons] at h
    rcases List.mem_cons.1 ha with rfl | ha' <;> rcases List.mem_cons.1 hb with rfl | hb'
    · rfl
    · exact absurd (e ▸ List.mem_map.2 ⟨b, hb', rfl⟩) h.1
    · exact absurd (e ▸ List.mem_map.2 ⟨a, ha', rfl⟩) h.1
    · exact ih h.2 ha' hb'
/-- The votes that are told: by slots. -/
def Told (f : Int → Option Vh) (L : List Vo) : Prop := L.Pairwise (fun x y => x.s < y.s) ∧ ∀ v, v ∈ L ↔ ∃ z, f v.s = some z ∧ v = z.vo
def SeenP (es : Array MapEntry) (f : Int → Option Vh) (seen : Array Nat) (hv : List Vh) : Prop :=
  (∀ x ∈ hv, ∃ e ∈ es.toList, seen.contains e.born = true ∧ e.key = .int .i64 x.s ∧ ∃ z, f x.s = some z ∧ x.vo = z.vo) ∧ (∀ e ∈ es.toList, seen.contains e.born = true → ∃ x ∈ hv, e.key = .int .i64 x.s) ∧ (hv.map (·.s)).Nodup
theorem SeenP.start (es : Array MapEntry) (f : Int → Option Vh) : SeenP es f #[] [] := ⟨fun x hx => (by cases hx), fun e _ h => (by simp at h), by simp⟩
theorem SeenP.step {es : Array MapEntry} {f : Int → Option Vh} {seen : Array Nat} {hv : List Vh} {clock : Nat} (h : SeenP es f seen hv) (hst : Go.MapKept.Stamped es clock) {e : MapEntry} (he : e ∈ (leftOf es seen).toList) {z x : Vh} (hk : e.key = .int .i64 x.s) (hf : f x.s = some z) (hz : x.vo = z.vo) : SeenP es f (seen.push e.born) (hv ++ [x]) := by
  obtain ⟨h1, h2, h3⟩ := h
  obtain ⟨hin, hno⟩ := mem_left he
  refine ⟨fun y hy => ?_, fun e' he' hs => ?_, ?_⟩
  · rcases List.mem_append.1 hy with hy | hy
    · obtain ⟨e1, g1, g2, g3⟩ := h1 y hy
      exact ⟨e1, g1, by simp at g2 ⊢; exact .inl g2, g3⟩
    · obtain rfl : y = x := List.mem_singleton.1 hy
      exact ⟨e, hin, by simp, hk, z, hf, hz⟩
  · by_cases hse : seen.contains e'.born = true
    · obtain ⟨y, hy, g⟩ := h2 e' he' hse
      exact ⟨y, List.mem_append_left _ hy, g⟩
    · have hb : e'.born = e.born := by
        simp at hs hse
        rcases hs with hs | hs
        · exact absurd hs hse
        · exact hs
      obtain rfl := nodup_inj hst.2.1 he' hin hb
      exact ⟨x, by simp, hk⟩
  · rw [List.map_append, List.nodup_append]
    refine ⟨h3, by simp, fun a ha b hb hab => ?_⟩
    obtain rfl : b = x.s := by simpa using hb
    obtain ⟨y, hy, hys⟩ := List.mem_map.1 ha
    obtain ⟨e1, g1, g2, g3, _⟩ := h1 y hy
    have : e1.key = e.key := by rw [g3, hk, hys, hab]
    obtain rfl := nodup_inj hst.2.2 g1 hin this
    rw [hno] at g2
    cases g2
/-- All are seen, and sorted. -/
theorem told_of {w : World} {m : Nat} {es : Array MapEntry} {f : Int → Option Vh} {seen : Array Nat} {hv l : List Vh} (h : SeenP es f seen hv) (hall : (leftOf es seen).size = 0) (hm : ∀ x v, f x = some v → ∃ e ∈ es.toList, e.key = .int .i64 x) (hp : l.Perm hv) (hs : l.Pairwise (fun x y => x.s ≤ y.s)) : Told f (l.map Vh.vo) := by
  obtain ⟨h1, h2, h3⟩ := h
  have hnd : (l.map (·.s)).Nodup := (hp.map (·.s)).nodup_iff.2 h3
  refine ⟨?_, fun v => ⟨fun hv' => ?_, fun hv' => ?_⟩⟩
  · rw [List.pairwise_map]
    have h4 : l.Pairwise (fun x y => x.s ≠ y.s) := by
      unfold List.Nodup at hnd
      rwa [List.pairwise_map] at hnd
    refine (hs.and h4).imp ?_
    rintro x y ⟨g1, g2⟩
    show x.s < y.s
    omega
  · obtain ⟨x, hx, rfl⟩ := List.mem_map.1 hv'
    obtain ⟨_, _, _, _, z, hz, he⟩ := h1 x (hp.mem_iff.1 hx)
    exact ⟨z, hz, he⟩
  · obtain ⟨z, hz, rfl⟩ := hv'
    obtain ⟨e, he, hk⟩ := hm _ z hz
    obtain ⟨x, hx, hkx⟩ := h2 e he (all_seen es seen hall e he)
    have hsx : x.s = z.vo.s := by rw [hk] at hkx; injection hkx with _ hkx; exact hkx.symm
    obtain ⟨_, _, _, _, z', hz', he'⟩ := h1 x hx
    rw [hsx, hz] at hz'
    injection hz' with hz'
    subst hz'
    exact List.mem_map.2 ⟨x, hp.mem_iff.2 hx, he'⟩
def TellsAt (w : World) (lo : Nat) (v : Value) (hv : List Vh) : Prop :=
  VIn w hv ∧ hv.length ≤ 64 ∧ ((v = .slice none 0 0 ∧ hv = []) ∨ ∃ g c, v = .slice (some ⟨g, 0, none⟩) hv.length c ∧ lo ≤ g ∧ RowV w g c hv ∧ ∀ x ∈ hv, 0 < x.mem.length → ∀ a, x.A = some a → a.block ≠ g)
theorem TellsAt.below {w w1 : World} {lo : Nat} {v : Value} {hv : List Vh} (h : TellsAt w lo v hv) (hB : Below w.heap.size w w1) : TellsAt w1 lo v hv := by
  obtain ⟨h1, h2, h3⟩ := h
  refine ⟨h1.below hB, h2, ?_⟩
  rcases h3 with h3 | ⟨g, c, h4, h5, h6, h7⟩
  · exact .inl h3
  · exact .inr ⟨g, c, h4, h5, h6.keep (Keep.of_below hB (fun _ => False)) (fun h => h), h7⟩
theorem TellsAt.low {w : World} {lo lo' : Nat} {v : Value} {hv : List Vh} (h : TellsAt w lo v hv) (hl : lo' ≤ lo) : TellsAt w lo' v hv := by
  obtain ⟨h1, h2, h3⟩ := h
  refine ⟨h1, h2, ?_⟩
  rcases h3 with h3 | ⟨g, c, h4, h5, h6⟩
  · exact .inl h3
  · exact .inr ⟨g, c, h4, Nat.le_trans hl h5, h6⟩
theorem TellsAt.row {w : World} {lo : Nat} {v : Value} {hv : List Vh} (h : TellsAt w lo v hv) : ∃ A c, v = .slice A hv.length c ∧ VRow w A hv.length hv := by
  obtain ⟨h1, h2, h3⟩ := h
  rcases h3 with ⟨rfl, rfl⟩ | ⟨g, c, rfl, h5, h6, h7⟩
  · exact ⟨none, 0, rfl, rfl, by decide, fun hp => absurd hp (by decide)⟩
  · exact ⟨_, c, rfl, h6.row (by omega)⟩
theorem vhK_fixed : vhK = Kd.fixed Vh.cells 8 (fun _ => rfl) vh_one := rfl
theorem row_open {w : World} {base : Nat} {ok : Nat → Prop} {u : Value} {hv : List Vh} (h : vhK.R 41 w base ok u hv) : (u = .slice none 0 0 ∧ hv = []) ∨ ∃ g c, u = .slice (some ⟨g, 0, none⟩) hv.length c ∧ base ≤ g ∧ RowV w g c hv := by
  rw [vhK_fixed] at h
  rcases fixR_iff.1 h with h1 | ⟨g, cap, cur, h1, _, h3, h4, h5, h6, h7, h8⟩
  · exact .inl h1
  · exact .inr ⟨g, cap, h1, h3, cur, h4, h5, h6, h7, h8⟩
set_option maxRecDepth 100000 in
set_option maxHeartbeats 2000000 in
theorem votes_g {w : World} {base b : Nat} {F : Nat → Prop} {p : Int} {f : Int → Option Vh} (h : AcG w base F b p f) (hsl : ∀ y z, f y = some z → 1 ≤ y ∧ y ≤ 64) : Calls Tryd.prog 15 #[.pointer (some ⟨b, 0, none⟩)] w fun r w' => ∃ v hv, r = .returned v ∧ TellsAt w' w.heap.size v hv ∧ Told f (hv.map Vh.vo) ∧ Below w.heap.size w w' := by
  obtain ⟨_, h2, m, h3, h4, h5, h6, h8⟩ := h
  obtain ⟨es, clock, hmb, hst, hent, hall⟩ := h6
  have q1 : w.cell? ⟨b, 1, none⟩ = some (.map (some m)) := blk_cell h3 1
  have hrange : (Instr.range 64 (.map (some m))).run Tryd.prog w = .ok (.pointer (some ⟨w.heap.size, 0, none⟩)) (w.alloc (.mapIter (some m) clock #[] clock)) := run_range_map w 64 3 41 m es clock Tryd.underlying64 hmb
  have HIT := Lib.hid (heap_alloc_new w (.mapIter (some m) clock #[] clock))
  have HB := Lib.hid ((Below.refl _ w).alloc (Nat.le_refl _) (.mapIter (some m) clock #[] clock))
  have HM := Lib.hid hmb
  have HST := Lib.hid hst
  have HENT := Lib.hid hent
  have HALL := Lib.hid hall
  have HSL := Lib.hid hsl
  have H8 := Lib.hid (fun y x (hx : f y = some x) => (⟨(h8 y x hx).1, own_reads (h8 y x hx).2.1, (h8 y x hx).2.2.2⟩ : x.s = y ∧ _ ∧ x.mem.length ≤ 1000000))
  have hml := (h2 m h4).2
  obtain ⟨r, hr⟩ : ∃ r, r = w.heap.size := ⟨_, rfl⟩
  rw [← hr] at hrange
  have HR := Lib.hid hr
  have hmr : m < r := by omega
  clear h2 h3 h4 h5 hmb hst h8 hent hall hr hml hsl
  go_enter Tryd.func15, Tryd.ntmps15
  go_wp2_with fail
  obtain ⟨w0, hw0⟩ : ∃ z, z = w.alloc (.mapIter (some m) clock #[] clock) := ⟨_, rfl⟩
  rw [← hw0]
  have HIT0 := Lib.hid (show w0.heap[r]? = some (.mapIter (some m) clock #[] clock) from by rw [hw0, HR.out]; exact HIT.out)
  have HM0 := Lib.hid (show w0.heap[m]? = some (.map es clock) from by rw [hw0]; exact (Below.heap_alloc w _ m (by have := HR.out; omega)).trans HM.out)
  have HB0 := Lib.hid (show Below w.heap.size w w0 from by rw [hw0]; exact HB.out)
  have HS0 := Lib.hid (show w0.heap.size = r + 1 from by rw [hw0, HR.out]; simp)
  clear hw0 HIT HB HM hrange
  go_loopw [3] (fun u wr => ∃ seen c0 hv, wr.heap[r]? = some (.mapIter (some m) clock seen c0) ∧ clock ≤ c0 ∧ RowKit.Hid (Keep (fun k => k = r) w0 wr) ∧ RowKit.Hid (vhK.R 41 wr w.heap.size (fun k => r < k) u hv) ∧ RowKit.Hid (∀ x ∈ hv, ReadsInt wr .i64 x.A x.mem.length x.mem ∧ (0 < x.mem.length → ∀ a, x.A = some a → r < a.block ∧ ∀ q, u.ownBlock = some q → a.block ≠ q)) ∧ RowKit.Hid (SeenP es f seen hv)) (fun _ wr => (leftOf es (wr.iterSeen r)).size)
  case atStart => exact ⟨#[], clock, [], HIT0.out, Nat.le_refl _, Lib.hid (Keep.refl _ _), Lib.hid (Kd.R_nil _ _ _ _ _), Lib.hid (fun x hx => by cases hx), Lib.hid (SeenP.start es f)⟩
  case round =>
    obtain ⟨seen, c0, hv, hit, hcc, HKR, HU, HIN, HSP⟩ := hrel
    have HBR := Lib.hid (show wr.heap[m]? = some (.map es clock) from HKR.out.blk' HM0.out (by omega))
    have HITR := Lib.hid hit
    have hseen : wr.iterSeen r = seen := by unfold World.iterSeen; rw [hit]
    have HSEEN := Lib.hid hseen
    have HBW := Lib.hid (show Below w.heap.size w wr from HB0.out.trans (HKR.out.to_below HB0.out.size (fun k h => by have h' : k = r := h; rw [h', HR.out]; exact Nat.le_refl _)))
    have hlen : hv.length ≤ 64 := by
      have h1 := nodup_bound 64 (hv.map (·.s)) HSP.out.2.2 (fun x hx => by
        obtain ⟨y, hy, rfl⟩ := List.mem_map.1 hx
        obtain ⟨_, _, _, _, z, hz, _⟩ := HSP.out.1 y hy
        exact HSL.out _ z hz)
      simpa using h1
    clear hit hseen
    go_wp2_with (at_next; refine wpList_next_at rfl _ rfl wr r m clock c0 seen es clock (by rfl) HITR.out HBR.out HST.out.1 hcc ?_ ?_)
    · intro hdone
      have hdone' : (leftOf es seen).size = 0 := by simpa using hdone
      have HDN := Lib.hid hdone'
      clear hdone hdone'
      rcases row_open HU.out with ⟨rfl, rfl⟩ | ⟨g, c, rfl, hg, hrow⟩
      · go_wp2_with (go_at_call 29; refine (sort_short 0 (by decide) none 0 _ _).mono ?_; rintro r' w' ⟨rfl, rfl⟩)
        go_ret
        exact ⟨_, [], rfl, ⟨fun x hx => (by cases hx), by simp, .inl ⟨rfl, rfl⟩⟩, told_of (w := w) (m := m) HSP.out HDN.out HALL.out (List.Perm.refl _) List.Pairwise.nil, HBW.out⟩
      · have HROW := Lib.hid hrow
        have HG := Lib.hid hg
        clear hrow hg
        go_wp2_with (go_at_call 29; refine (sort_row HROW.out (by omega)).mono ?_; rintro r' w2 ⟨rfl, l2, hp2, hs2, hr2, hk2⟩
                     have HP2 := Lib.hid hp2
                     have HS2 := Lib.hid hs2
                     have HR2 := Lib.hid hr2
                     have HK2 := Lib.hid hk2
                     clear hp2 hs2 hr2 hk2)
        go_ret
        have hll : l2.length = hv.length := HP2.out.length_eq
        refine ⟨.slice (some ⟨g, 0, none⟩) l2.length c, l2, by rw [hll]; rfl, ⟨fun x hx => ?_, by omega, .inr ⟨g, c, rfl, HG.out, HR2.out, fun x hx hpx a ha => ?_⟩⟩, told_of (w := w) (m := m) HSP.out HDN.out HALL.out HP2.out HS2.out, HBW.out.trans (HK2.out.to_below HBW.out.size (fun k hk => by have h' : k = g := hk; rw [h']; exact HG.out))⟩
        · obtain ⟨g1, g2⟩ := HIN.out x (HP2.out.mem_iff.1 hx)
          exact vreads_keep g1 HK2.out (fun hp a ha e => (g2 hp a ha).2 g rfl e)
        · exact ((HIN.out x (HP2.out.mem_iff.1 hx)).2 hpx a ha).2 g rfl
    · intro e' he' w1 hk1 hit1 hsz1
      have he2 : e' ∈ (leftOf es seen).toList := by simpa using he'
      obtain ⟨y, z, hek, hev, hfz⟩ := HENT.out e' (mem_left he2).1
      obtain ⟨hzs, ⟨A', c', he3, hrd⟩, hzl⟩ := H8.out y z hfz
      obtain rfl : z.A = A' := by injection he3
      have hsh := left_shrinks es seen e' he2
      have hentry := run_entry_at (P := Tryd.prog) w1 r m clock seen es clock e' hit1 (hk1.blk' HBR.out (by omega)) (mem_left he2).1 HST.out.2.1
      obtain ⟨Au, cu, rfl⟩ := Kd.R_slice HU.out
      have HEK := Lib.hid hek
      rw [hek, hev] at hentry ⊢
      have HK1 := Lib.hid (HKR.out.trans hk1 (fun k h => .inl h))
      have HKS := Lib.hid hk1
      have HIT1 := Lib.hid hit1
      have HSH := Lib.hid hsh
      have HE2 := Lib.hid he2
      have HFZ := Lib.hid hfz
      have HZS := Lib.hid hzs
      have HRD := Lib.hid hrd
      have HN := Lib.hid hzl
      have HB1 := Lib.hid (show Below w.heap.size w w1 from HB0.out.trans (HK1.out.to_below HB0.out.size (fun k h => by have h' : k = r := h; rw [h', HR.out]; exact Nat.le_refl _)))
      have hrl : r < w1.heap.size := by rw [hsz1]; have := HKR.out.size; have := HS0.out; omega
      have HRL := Lib.hid hrl
      obtain ⟨W, hW⟩ : ∃ q, w1.alloc (.cells #[.int .i64 z.s, .int .i64 z.b, .int .i64 z.kd, .int .i64 z.c, .int .i64 z.q, .string z.data, .slice z.A z.mem.length z.cap, .int .i64 z.dst] 41) = q := ⟨_, rfl⟩
      have hBW1 : Below w1.heap.size w1 W := by rw [← hW]; exact (Below.refl _ w1).alloc (Nat.le_refl _) _
      have hb9 : W.heap[w1.heap.size]? = some (.cells #[.int .i64 z.s, .int .i64 z.b, .int .i64 z.kd, .int .i64 z.c, .int .i64 z.q, .string z.data, .slice z.A z.mem.length z.cap, .int .i64 z.dst] 41 (0, 0)) := by rw [← hW]; exact heap_alloc_new w1 _
      have c90 : W.cell? ⟨w1.heap.size, 0, none⟩ = some (.int .i64 z.s) := blk_cell hb9 0
      have c91 : W.cell? ⟨w1.heap.size, 1, none⟩ = some (.int .i64 z.b) := blk_cell hb9 1
      have c92 : W.cell? ⟨w1.heap.size, 2, none⟩ = some (.int .i64 z.kd) := blk_cell hb9 2
      have c93 : W.cell? ⟨w1.heap.size, 3, none⟩ = some (.int .i64 z.c) := blk_cell hb9 3
      have c94 : W.cell? ⟨w1.heap.size, 4, none⟩ = some (.int .i64 z.q) := blk_cell hb9 4
      have c95 : W.cell? ⟨w1.heap.size, 5, none⟩ = some (.string z.data) := blk_cell hb9 5
      have c96 : W.cell? ⟨w1.heap.size, 6, none⟩ = some (.slice z.A z.mem.length z.cap) := blk_cell hb9 6
      have c97 : W.cell? ⟨w1.heap.size, 7, none⟩ = some (.int .i64 z.dst) := blk_cell hb9 7
      have HBW2 := Lib.hid (HB1.out.trans (hBW1.mono HB1.out.size))
      have HK2 := Lib.hid (HK1.out.trans (Keep.of_below hBW1 (fun _ => False)) (fun _ h => h.elim))
      have HKW := Lib.hid (show Keep (fun k => k = r) wr W from hk1.trans (Keep.of_below hBW1 (fun _ => False)) (fun _ h => h.elim))
      have HIT2 := Lib.hid ((hBW1.block r hrl).trans HIT1.out)
      have HSW := Lib.hid hBW1.size
      unfold encVh at *
      clear hk1 hit1 hsz1 he' hsh hBW1 hb9 hrl hek hev hfz hzs he3 hrd hzl he2
      go_wp2_with (first
        | (at_builtin; refine Kd.R_append vhK (w0 := w) (W := W3) w.heap.size rfl _ _ 35 41 _ 88 rfl Tryd.underlying35 infoVT rfl (by decide) (by decide) (.slice Au hv.length cu) hv ({ z with A := A1, cap := c1 } : Vh) ({ z with A := A1, cap := c1 } : Vh).cells (fun k => r < k) (fun _ => False) rfl rfl ?a1 ?a2 ?a3 ?a4 ?a5 ?a6 ?a7 ?a8)
        | (go_at_call 26; refine (twin_any z W (HRD.out.below HBW2.out) HN.out).mono ?_
           rintro r' W3 ⟨A1, c1, rfl, hO, hB3⟩
           have HO := Lib.hid hO
           have HB3 := Lib.hid hB3
           clear hO hB3))
      case a1 => rfl
      case a2 => exact fun k hk => hk.elim
      case a3 => exact fun j hj => by have := HRL.out; have := HSW.out; have := HB3.out.size; omega
      case a4 => exact Kd.R_below (Kd.R_step HU.out (fun k hk hlt => HKW.out.block k hlt (by have h' : r < k := hk; show ¬ k = r; omega))) HB3.out
      case a5 => exact HBW2.out.trans (HB3.out.mono HBW2.out.size)
      case a6 => exact Nat.le_trans HBW2.out.size HB3.out.size
      case a7 => omega
      case a8 =>
        intro v4 w4 hR4 hB4 hg4 hat4
        have HR4 := Lib.hid hR4
        have HG4 := Lib.hid hg4
        have HAT4 := Lib.hid hat4
        clear hR4 hB4 hg4 hat4
        go_wp2_with fail
        have hk4 : Keep (fun k => (Value.slice Au hv.length cu).ownBlock = some k) W3 w4 := Keep.of_grown HG4.out (fun k hk => hk)
        have hown : ∀ k, (Value.slice Au hv.length cu).ownBlock = some k → r < k ∧ k < wr.heap.size := fun k hk => by
          obtain ⟨inner, hi⟩ := Kd.R_own HU.out
          exact ⟨HU.out.1 k hk, own_lt hi k hk⟩
        have hk24 : Keep (fun k => k = r) w0 w4 := by
          have h1 : Keep (fun k => k = r) w0 W3 := HK2.out.trans (Keep.of_below HB3.out (fun _ => False)) (fun _ h => h.elim)
          have h2 : Keep (fun k => k = r ∨ r < k) w0 w4 := (h1.mono (fun k hk _ => .inl hk)).trans hk4 (fun k hk => .inl (.inr (hown k hk).1))
          refine h2.mono (fun k hk hlt => ?_)
          have := HS0.out
          rcases hk with hk | hk
          · exact hk
          · omega
        have hit4 : w4.heap[r]? = some (.mapIter (some m) clock (seen.push e'.born) clock) := by
          have h1 := HRL.out
          have h2 := HSW.out
          have h3 := HB3.out.size
          rw [hk4.block r (by omega) (fun h => by have := (hown r h).1; omega), HB3.out.block r (by omega)]
          exact HIT2.out
        have hsn4 : w4.iterSeen r = seen.push e'.born := by unfold World.iterSeen; rw [hit4]
        have hszz : wr.heap.size ≤ W.heap.size := HKW.out.size
        refine ⟨⟨seen.push e'.born, clock, hv ++ [{ z with A := A1, cap := c1 }], hit4, Nat.le_refl _, Lib.hid hk24, HR4, Lib.hid (fun x hx => ?_), Lib.hid (HSP.out.step HST.out HE2.out (z := z) (by rw [HEK.out, ← HZS.out]) (by rw [show ({ z with A := A1, cap := c1 } : Vh).s = z.s from rfl, HZS.out]; exact HFZ.out) rfl)⟩, ?_⟩
        · rcases List.mem_append.1 hx with hx | hx
          · obtain ⟨g1, g2⟩ := HIN.out x hx
            have hlt : 0 < x.mem.length → ∀ a, x.A = some a → a.block < wr.heap.size := fun hp a ha => by
              obtain ⟨ad, ha', hc⟩ := g1.2.2 hp
              rw [ha] at ha'
              injection ha' with ha'
              subst ha'
              have := World.block_lt_of_cell? wr _ (hc 0 hp)
              rw [vadd_block] at this
              exact this
            have g3 : ReadsInt W .i64 x.A x.mem.length x.mem := vreads_keep g1 HKW.out (fun hp a ha e => by have := (g2 hp a ha).1; have e' : a.block = r := e; omega)
            refine ⟨vreads_keep (g3.below HB3.out) hk4 (fun hp a ha e => (g2 hp a ha).2 _ e rfl), fun hp a ha => ⟨(g2 hp a ha).1, fun q hq => ?_⟩⟩
            rcases HAT4.out with e | ⟨b', e, hle⟩
            · rw [e] at hq; exact (g2 hp a ha).2 q hq
            · rw [e] at hq
              injection hq with hq
              have := hlt hp a ha
              have := HB3.out.size
              omega
          · obtain rfl := List.mem_singleton.1 hx
            obtain ⟨A2, c2, he2, hr2⟩ := own_reads HO.out
            obtain rfl : A1 = A2 := by injection he2
            have hbase : ∀ a, A1 = some a → 0 < z.mem.length → W.heap.size ≤ a.block ∧ a.block < W3.heap.size := fun a ha hp => by
              have ho : (Value.slice A1 z.mem.length c1).ownBlock = some a.block := by rw [ha]; rfl
              exact ⟨own_base HO.out _ ho, own_lt HO.out _ ho⟩
            refine ⟨vreads_keep hr2 hk4 (fun hp a ha e => by have h1 := (hbase a ha hp).1; have h2 := (hown _ e).2; omega), fun hp a ha => ⟨by have h1 := (hbase a ha hp).1; have := HRL.out; have := HSW.out; omega, fun q hq => ?_⟩⟩
            rcases HAT4.out with e | ⟨b', e, hle⟩
            · rw [e] at hq
              have h1 := (hbase a ha hp).1
              have h2 := (hown q hq).2
              omega
            · rw [e] at hq
              injection hq with hq
              have h1 := (hbase a ha hp).2
              omega
        · rw [hsn4, HSEEN.out]
          exact HSH.out
end Go.Proofs.YtgkhkcoojfjofaaDoor
