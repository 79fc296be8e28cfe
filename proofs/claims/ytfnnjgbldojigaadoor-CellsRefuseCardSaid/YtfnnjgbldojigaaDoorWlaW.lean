/- What the laws of logs share: within, same, small, size, pick. -/
import Derived.Test.YtfnnjgbldojigaaDoorCalW
import Derived.Test.YtfnnjgbldojigaaDoorLaidH
import Derived.Lib.SlBytesConst
set_option linter.unusedVariables false
set_option linter.unusedSimpArgs false
namespace Go.Proofs.YtfnnjgbldojigaaDoor
open Go.RowKit Go.Proofs.YtfnnjgbldojigaaDoorW.PrintWords Go.Proofs.Mine Go.Proofs.Mine.Crc

def strB (l : List UInt8) : ByteArray := ⟨l.toArray⟩
theorem strB_inj {a b : List UInt8} (h : strB a = strB b) : a = b := by
  unfold strB at h
  injection h with h
  injection h
theorem conv_str {w : World} {A : Option Addr} {n c : Nat} {l : List UInt8} (h : ReadsOf b8 0 w A n l) : (convert 32 9 (.slice A n c)).run Tryd.prog w = .ok (.string (strB l)) w := by
  have hI : ReadsInt w .u8 A n (l.map fun x => (x.toNat : Int)) := ri_of_bytes h
  rw [string_of_reads Tryd.underlying32 Tryd.underlying5 Tryd.underlying9 hI]
  congr 2
  simp [strOfNums, strB, List.map_map, Function.comp_def]
theorem tmod_fix (a n : Int) (hn : 0 < n) : (if a.tmod n < 0 then a.tmod n + n else a.tmod n) = a % n := by
  have h1 := Int.tmod_add_mul_tdiv a n
  have h2 := Int.emod_add_mul_ediv a n
  rw [Int.tmod_eq_emod]
  have h3 := Int.emod_nonneg a (show n ≠ 0 by omega)
  have h4 := Int.emod_lt_of_pos a hn
  split <;> split <;> omega
set_option maxHeartbeats 1000000 in
theorem within4_any (a n : Int) (w : World) (hn : 0 < n) (hn2 : n ≤ 4611686018427387904) :
    Calls Tryd.prog 23 #[.int .i64 a, .int .i64 n] w fun e w' => e = .returned (.int .i64 (a % n)) ∧ w = w' := by
  have H := Lib.hid (tmod_fix a n hn)
  have h1 : -n < a.tmod n := by
    have := Int.tmod_eq_emod (a := a) (b := n)
    have h3 := Int.emod_nonneg a (show n ≠ 0 by omega)
    have h4 := Int.emod_lt_of_pos a hn
    split at this <;> omega
  have h0 : (n == 0) = false := by simp; omega
  by_cases hs : a.tmod n < 0
  · have hf : a.tmod n + n = a % n := by have := H.out; rwa [if_pos hs] at this
    have HF := Lib.hid hf
    clear hf H
    go_enter Tryd.func23, Tryd.ntmps23
    go_wp2
    go_ret
    exact ⟨by rw [HF.out]; rfl, rfl⟩
  · have hf : a.tmod n = a % n := by have := H.out; rwa [if_neg hs] at this
    have HF := Lib.hid hf
    clear hf H
    go_enter Tryd.func23, Tryd.ntmps23
    go_wp2
    go_ret
    exact ⟨by rw [HF.out]; rfl, rfl⟩
set_option maxHeartbeats 1000000 in
theorem within5_any (a n : Int) (w : World) (hn : 0 < n) (hn2 : n ≤ 4611686018427387904) :
    Calls Tryd.prog 33 #[.int .i64 a, .int .i64 n] w fun e w' => e = .returned (.int .i64 (a % n)) ∧ w = w' := by
  have H := Lib.hid (tmod_fix a n hn)
  have h1 : -n < a.tmod n := by
    have := Int.tmod_eq_emod (a := a) (b := n)
    have h3 := Int.emod_nonneg a (show n ≠ 0 by omega)
    have h4 := Int.emod_lt_of_pos a hn
    split at this <;> omega
  have h0 : (n == 0) = false := by simp; omega
  by_cases hs : a.tmod n < 0
  · have hf : a.tmod n + n = a % n := by have := H.out; rwa [if_pos hs] at this
    have HF := Lib.hid hf
    clear hf H
    go_enter Tryd.func33, Tryd.ntmps33
    go_wp2
    go_ret
    exact ⟨by rw [HF.out]; rfl, rfl⟩
  · have hf : a.tmod n = a % n := by have := H.out; rwa [if_neg hs] at this
    have HF := Lib.hid hf
    clear hf H
    go_enter Tryd.func33, Tryd.ntmps33
    go_wp2
    go_ret
    exact ⟨by rw [HF.out]; rfl, rfl⟩
set_option maxRecDepth 100000 in
set_option maxHeartbeats 2000000 in
theorem same_any (A D : Option Addr) (c d : Nat) (xs ys : List Hd) (w : World) (ha : HRow w A xs.length xs) (hb : HRow w D ys.length ys) (hia : HdsIn w xs) (hib : HdsIn w ys) :
    Calls Tryd.prog 20 #[.slice A xs.length c, .slice D ys.length d] w fun r w' => r = .returned (.bool (decide (xs.map (·.l) = ys.map (·.l)))) ∧ Below w.heap.size w w' := by
  by_cases hl : xs.length = ys.length
  · obtain ⟨n, hn⟩ : ∃ n, n = xs.length := ⟨_, rfl⟩
    have hnb : n = ys.length := hn.trans hl
    rw [← hn] at ha
    rw [← hnb] at hb
    rw [← hn, ← hnb]
    have HA := Lib.hid ha
    have HB := Lib.hid hb
    have HIA := Lib.hid hia
    have HIB := Lib.hid hib
    have HN := Lib.hid hn
    have HNB := Lib.hid hnb
    have hnn : ((n : Int) != (n : Int)) = false := by simp
    have hmx := ha.2.1
    clear ha hb hia hib hl hn hnb
    go_enter Tryd.func20, Tryd.ntmps20
    go_wp2_with fail
    go_loopw [5] (fun iv wr => ∃ (k : Nat), k ≤ n ∧ iv = .int .i64 (k : Int) ∧ RowKit.Hid ((xs.take k).map (·.l) = (ys.take k).map (·.l)) ∧ RowKit.Hid (Below w.heap.size w wr)) (fun iv _ => n - (intOf iv).toNat)
    case atStart => exact ⟨0, by omega, rfl, Lib.hid (by simp), Lib.hid (Below.refl _ _)⟩
    case round =>
      obtain ⟨k, hk, rfl, HE, HW⟩ := hrel
      by_cases hlt : k < n
      · have hlt2 : (k : Int) < (n : Int) := by omega
        have hk0 : (0 : Int) ≤ (k : Int) := by omega
        obtain ⟨x, hx⟩ : ∃ x, xs[k]? = some x := ⟨_, List.getElem?_eq_getElem (by have := HN.out; omega)⟩
        obtain ⟨y, hy⟩ : ∃ y, ys[k]? = some y := ⟨_, List.getElem?_eq_getElem (by have := HNB.out; omega)⟩
        obtain ⟨ad, rfl, hcx⟩ := hd_at HA.out hx
        obtain ⟨bd, rfl, hcy⟩ := hd_at HB.out hy
        have hrx := ((HIA.out x (List.mem_of_getElem? hx)).1).below HW.out
        have hry := ((HIB.out y (List.mem_of_getElem? hy)).1).below HW.out
        have q1 := pw_cell_below HW.out hcx
        have q2 := pw_cell_below HW.out hcy
        have kx : ∀ nq, (convert 32 9 (.slice x.A x.l.length x.c)).run Tryd.prog (wr.drewN nq) = .ok (.string (strB x.l)) (wr.drewN nq) := fun nq => conv_str (w := wr.drewN nq) hrx
        have ky : ∀ nq, (convert 32 9 (.slice y.A y.l.length y.c)).run Tryd.prog (wr.drewN nq) = .ok (.string (strB y.l)) (wr.drewN nq) := fun nq => conv_str (w := wr.drewN nq) hry
        have hta : (xs.take (k + 1)).map (·.l) = (xs.take k).map (·.l) ++ [x.l] := by rw [List.take_add_one, hx]; simp
        have htb : (ys.take (k + 1)).map (·.l) = (ys.take k).map (·.l) ++ [y.l] := by rw [List.take_add_one, hy]; simp
        have HTA := Lib.hid hta
        have HTB := Lib.hid htb
        by_cases hxy : x.l = y.l
        · have HXY := Lib.hid hxy
          have hs : strB x.l = strB y.l := by rw [hxy]
          generalize strB x.l = sx at *
          generalize strB y.l = sy at *
          subst hs
          clear hcx hcy hrx hry hx hy hta htb hxy
          go_wp2
          go_quiet (fail)
          go_wp2
          go_roundw
          case rel => exact ⟨k + 1, by omega, by go_num, Lib.hid (by rw [HTA.out, HTB.out, HE.out, HXY.out]), Lib.hid (pw_below_drewN HW.out _)⟩
          case measure => simp [intOf]; omega
        · have hs : strB x.l ≠ strB y.l := fun e => hxy (strB_inj e)
          have hne : xs.map (·.l) ≠ ys.map (·.l) := by
            intro e
            have e2 := congrArg (fun l => l[k]?) e
            simp only [List.getElem?_map, hx, hy, Option.map_some] at e2
            exact hxy (Option.some.inj e2)
          have HNE := Lib.hid hne
          have HS1 := Lib.hid (show ((strB x.l).toList == (strB y.l).toList) = false from by rw [show (strB x.l).toList = x.l from ByteArray.toList_mk _, show (strB y.l).toList = y.l from ByteArray.toList_mk _]; exact beq_eq_false_iff_ne.mpr hxy)
          generalize strB x.l = sx at *
          generalize strB y.l = sy at *
          have hs1 : (sx.toList == sy.toList) = false := HS1.out
          clear hcx hcy hrx hry hx hy hta htb hxy hne
          go_wp2
          go_quiet (fail)
          go_wp2
          go_ret
          exact ⟨by rw [decide_eq_false HNE.out]; rfl, pw_below_drewN HW.out _⟩
      · obtain rfl : k = n := by omega
        have hfin : xs.map (·.l) = ys.map (·.l) := by
          have e1 : xs.take k = xs := List.take_of_length_le (by have := HN.out; omega)
          have e2 : ys.take k = ys := List.take_of_length_le (by have := HNB.out; omega)
          have := HE.out
          rwa [e1, e2] at this
        have HFIN := Lib.hid hfin
        clear hfin
        go_wp2
        go_ret
        exact ⟨by rw [decide_eq_true HFIN.out]; rfl, HW.out⟩
  · have hne : xs.map (·.l) ≠ ys.map (·.l) := by
      intro e
      have := congrArg List.length e
      simp at this
      exact hl this
    have HNE := Lib.hid hne
    have hn1 : ((xs.length : Int) != (ys.length : Int)) = true := by rw [bne_iff_ne]; omega
    clear hne
    go_enter Tryd.func20, Tryd.ntmps20
    go_wp2
    go_ret
    exact ⟨by rw [decide_eq_false HNE.out]; rfl, Below.refl _ _⟩
/-- Rows of at most 300 bytes, of the first eight. -/
def smallH (hs : List Hd) : List Hd := (hs.take 8).filter fun y => decide (y.l.length ≤ 300)
theorem smallH_snoc (hs : List Hd) (k : Nat) (y : Hd) (hk : k < 8) (hy : hs[k]? = some y) : (hs.take (k + 1)).filter (fun y => decide (y.l.length ≤ 300)) = (hs.take k).filter (fun y => decide (y.l.length ≤ 300)) ++ (if y.l.length ≤ 300 then [y] else []) := by
  rw [List.take_add_one, hy, List.filter_append]
  congr 1
  by_cases h : y.l.length ≤ 300 <;> simp [h]
theorem smallH_mem {hs : List Hd} {y : Hd} (h : y ∈ smallH hs) : y ∈ hs ∧ y.l.length ≤ 300 := by
  unfold smallH at h
  obtain ⟨h1, h2⟩ := List.mem_filter.1 h
  exact ⟨List.mem_of_mem_take h1, of_decide_eq_true h2⟩
theorem smallH_len (hs : List Hd) : (smallH hs).length ≤ 8 := by
  unfold smallH
  refine Nat.le_trans (List.length_filter_le _ _) ?_
  rw [List.length_take]; omega
set_option maxRecDepth 100000 in
set_option maxHeartbeats 2000000 in
theorem small_any (A : Option Addr) (c : Nat) (hs : List Hd) (w : World) (hrow : HRow w A hs.length hs) :
    Calls Tryd.prog 16 #[.slice A hs.length c] w fun r w' => ∃ v, r = .returned v ∧ HOwn w' w.heap.size v (smallH hs) ∧ Below w.heap.size w w' := by
  have HROW := Lib.hid hrow
  have hmx := hrow.2.1
  clear hrow
  go_enter Tryd.func16, Tryd.ntmps16
  go_wp2_with fail
  go_loopw [3, 4] (fun u iv wr => ∃ (k : Nat), k ≤ hs.length ∧ k ≤ 8 ∧ iv = .int .i64 (k : Int) ∧ RowKit.Hid (HOwn wr w.heap.size u ((hs.take k).filter fun y => decide (y.l.length ≤ 300))) ∧ RowKit.Hid (Below w.heap.size w wr)) (fun _ iv _ => 8 - (intOf iv).toNat)
  case atStart => exact ⟨0, by omega, by omega, rfl, Lib.hid (by rw [List.take_zero]; exact own_nil _ _ _ _), Lib.hid (Below.refl _ _)⟩
  case round =>
    obtain ⟨k, hk, hk8, rfl, HU, HB⟩ := hrel
    by_cases hlt : k < hs.length ∧ k < 8
    · have hlt2 : (k : Int) < (hs.length : Int) := by omega
      have hlt8 : (k : Int) < 8 := by omega
      have hk0 : (0 : Int) ≤ (k : Int) := by omega
      obtain ⟨y, hy⟩ : ∃ y, hs[k]? = some y := ⟨_, List.getElem?_eq_getElem hlt.1⟩
      obtain ⟨ad, rfl, hcell⟩ := hd_at HROW.out hy
      have hcw : wr.cell? (ad.add k) = some (.slice y.A y.l.length y.c) := pw_cell_below HB.out hcell
      have hts := smallH_snoc hs k y hlt.2 hy
      have hdl : ((hs.take k).filter fun y => decide (y.l.length ≤ 300)).length ≤ 8 := by refine Nat.le_trans (List.length_filter_le _ _) ?_; rw [List.length_take]; omega
      have HTS := Lib.hid hts
      clear hcell hy hts
      generalize (hs.take k).filter (fun y => decide (y.l.length ≤ 300)) = dn at *
      obtain ⟨Au, cu, rfl⟩ := own_slice HU.out
      by_cases hle : y.l.length ≤ 300
      · have hle2 : (y.l.length : Int) ≤ 300 := by omega
        have HLE := Lib.hid hle
        go_wp2_with (at_builtin; refine print_append_of (w0 := w) Hd.v w.heap.size rfl _ _ 22 32 (.slice none 0 0) 24 rfl Tryd.underlying22 infoR rfl (by decide) (.slice Au dn.length cu) dn y rfl rfl (hd_one y) HU.out HB.out HB.out.size (by omega) ?e8)
        case e8 =>
          intro v2 w2 hR2 hB2 _ _
          have L1 := Lib.hid hR2
          have L2 := Lib.hid hB2
          clear hR2 hB2
          go_wp2
          exact ⟨⟨k + 1, by omega, by omega, by simp, Lib.hid (by rw [HTS.out, if_pos HLE.out]; show w2.ownsRow _ _ 1 _ (dn ++ [y]).length _; rw [List.length_append]; exact L1.out), L2⟩, by simp [intOf]; omega⟩
      · have hle2 : ¬ ((y.l.length : Int) ≤ 300) := by omega
        have HLE := Lib.hid hle
        go_wp2
        exact ⟨⟨k + 1, by omega, by omega, by simp, Lib.hid (by rw [HTS.out, if_neg HLE.out, List.append_nil]; exact HU.out), HB⟩, by simp [intOf]; omega⟩
    · have hfin : (hs.take k).filter (fun y => decide (y.l.length ≤ 300)) = smallH hs := by
        unfold smallH
        by_cases h1 : k < hs.length
        · rw [show k = 8 by omega]
        · rw [List.take_of_length_le (by omega), List.take_of_length_le (by omega)]
      rw [hfin] at HU
      clear hfin
      by_cases h1 : k < hs.length
      · have h2 : (k : Int) < (hs.length : Int) := by omega
        have h3 : ¬ ((k : Int) < 8) := by omega
        go_wp2
        obtain ⟨Au, cu, rfl⟩ := own_slice HU.out
        go_ret
        exact ⟨_, rfl, HU.out, HB.out⟩
      · have h2 : ¬ ((k : Int) < (hs.length : Int)) := by omega
        go_wp2
        obtain ⟨Au, cu, rfl⟩ := own_slice HU.out
        go_ret
        exact ⟨_, rfl, HU.out, HB.out⟩
set_option maxRecDepth 100000 in
set_option maxHeartbeats 2000000 in
theorem size_any (A : Option Addr) (c : Nat) (hs : List Hd) (w : World) (hrow : HRow w A hs.length hs) (hb : (framesOf (hs.map (·.l))).length ≤ 1000000000) :
    Calls Tryd.prog 27 #[.slice A hs.length c] w fun r w' => r = .returned (.int .i64 ((framesOf (hs.map (·.l))).length : Int)) ∧ w = w' := by
  have HROW := Lib.hid hrow
  have hmx := hrow.2.1
  have HBD := Lib.hid hb
  clear hrow hb
  go_enter Tryd.func27, Tryd.ntmps27
  go_wp2_with fail
  go_loopw [3, 4] (fun u iv wr => ∃ (k : Nat), k ≤ hs.length ∧ iv = .int .i64 (k : Int) ∧ u = .int .i64 ((framesOf ((hs.take k).map (·.l))).length : Int) ∧ w = wr) (fun _ iv _ => hs.length - (intOf iv).toNat)
  case atStart => exact ⟨0, by omega, rfl, by simp [framesOf], rfl⟩
  case round =>
    obtain ⟨k, hk, rfl, rfl, rfl⟩ := hrel
    by_cases hlt : k < hs.length
    · have hlt2 : (k : Int) < (hs.length : Int) := by omega
      have hk0 : (0 : Int) ≤ (k : Int) := by omega
      obtain ⟨y, hy⟩ : ∃ y, hs[k]? = some y := ⟨_, List.getElem?_eq_getElem hlt⟩
      obtain ⟨ad, rfl, hcell⟩ := hd_at HROW.out hy
      have hts : (hs.take (k + 1)).map (·.l) = (hs.take k).map (·.l) ++ [y.l] := by rw [List.take_add_one, hy]; simp
      have hfl : (framesOf ((hs.take (k + 1)).map (·.l))).length = (framesOf ((hs.take k).map (·.l))).length + (y.l.length + 8) := by rw [hts, frames_len_snoc]
      have hle : (framesOf ((hs.take (k + 1)).map (·.l))).length ≤ 1000000000 := by
        refine Nat.le_trans ?_ HBD.out
        rw [List.map_take, endOf_wholes, List.length_take]; omega
      rw [hfl] at hle
      have HFL := Lib.hid hfl
      clear hy hts hfl
      generalize (framesOf ((hs.take k).map (·.l))).length = z at *
      go_wp2
      exact ⟨⟨k + 1, by omega, by simp, by rw [HFL.out]; push_cast; congr 1 <;> omega, by first | rfl | trivial⟩, by simp [intOf]; omega⟩
    · obtain rfl : k = hs.length := by omega
      rw [List.take_length]
      go_wp2
      go_ret
      exact ⟨rfl, rfl⟩
def pickV (l : List Int) (i : Int) : Int := if i < 0 then 0 else l.getD i.toNat 0
set_option maxRecDepth 100000 in
set_option maxHeartbeats 2000000 in
theorem pick_any (A : Option Addr) (c : Nat) (l : List Int) (i : Int) (w : World) (h : ReadsInt w .i64 A l.length l) :
    Calls Tryd.prog 30 #[.slice A l.length c, .int .i64 i] w fun r w' => r = .returned (.int .i64 (pickV l i)) ∧ w = w' := by
  unfold pickV
  have H := Lib.hid h
  have hmx := h.2.1
  clear h
  by_cases h0 : i < 0
  · rw [if_pos h0]
    go_enter Tryd.func30, Tryd.ntmps30
    go_wp2
    go_ret
    exact ⟨rfl, rfl⟩
  · rw [if_neg h0]
    obtain ⟨n, rfl⟩ := Int.eq_ofNat_of_zero_le (show 0 ≤ i by omega)
    rw [Int.toNat_natCast]
    by_cases h1 : n < l.length
    · have h2 : (n : Int) < (l.length : Int) := by omega
      have h3 : ¬ ((l.length : Int) ≤ (n : Int)) := by omega
      have hn0 : (0 : Int) ≤ (n : Int) := by omega
      obtain ⟨ad, rfl, hc⟩ := H.out.2.2 (by omega)
      have hcn := hc n h1
      clear hc
      go_enter Tryd.func30, Tryd.ntmps30
      go_wp2
      go_ret
      exact ⟨rfl, rfl⟩
    · have h2 : (l.length : Int) ≤ (n : Int) := by omega
      have hz : l.getD n 0 = 0 := by simp [List.getD_eq_getElem?_getD, List.getElem?_eq_none (show l.length ≤ n by omega)]
      rw [hz]
      clear hz
      go_enter Tryd.func30, Tryd.ntmps30
      go_wp2
      go_ret
      exact ⟨rfl, rfl⟩
end Go.Proofs.YtfnnjgbldojigaaDoor
