/- The walk of Replace. -/
import Derived.Test.YtfnnjgbldojigaaDoorAppW
set_option linter.unusedVariables false
set_option linter.unusedSimpArgs false
namespace Go.Proofs.YtfnnjgbldojigaaDoor
open Go.RowKit Go.Proofs.YtfnnjgbldojigaaDoorW.PrintWords Go.Proofs.Mine

/-- A new row is put, and counted. -/
theorem tape_repl {w w4 : World} {base b : Nat} {F : Nat → Prop} {s : TS} {A : Option Addr} {c : Nat} {v1 : Value} {x : List Int} (h : TOpen w base F b s A c) (hv : Buf .u8 5 w4 w.heap.size v1 x) (hB : Below w.heap.size w w4) :
    Tape' w base F b { s with l := x, synced := x.length } ((w4.setCell ⟨b, 1, none⟩ v1).setCell ⟨b, 2, none⟩ (.int .i64 (x.length : Int))) := by
  have hbase : base ≤ w.heap.size := by have := (h.lt b h.inF).1; have := (h.lt b h.inF).2; omega
  obtain ⟨F', hT, hF, hK⟩ := tape_put h (hv.lower hbase) (Keep.of_below hB _) (fun k hk => .inr (hv.lt k hk).1)
  obtain ⟨A2, c2, ho⟩ := hT.open_
  exact Tape'.after hF hK (tape_sync ho x.length)
set_option maxRecDepth 100000 in
set_option maxHeartbeats 2000000 in
theorem replace_any (B : Option Addr) (cx : Nat) (x : List Int) (w : World) (base b : Nat) (F : Nat → Prop) (s : TS) (hg0 : Laid w) (hb0 : 0 < base) (hk : TOk s) (h : TapeAt w base F b s)
    (hx : ReadsInt w .u8 B x.length x) (hxB : 0 < x.length → ∀ a, B = some a → ¬ F a.block) :
    Calls Tryd.prog 51 #[.pointer (some ⟨b, 0, none⟩), .slice B x.length cx] w fun r w' => r = .returned (.int .i64 (replaceE s x)) ∧ Tape' w base F b (replaceS s x) w' := by
  have HG := Lib.hid hg0
  have HH := Lib.hid h
  have HK := Lib.hid hk
  have HB0 := Lib.hid hb0
  have HX := Lib.hid hx
  have HXB := Lib.hid hxB
  clear hg0 h hk hb0 hx hxB
  by_cases hm : mayE s (x.length : Int) = 0
  · have hE : replaceE s x = spendE s := if_pos hm
    rw [hE]
    have HM := Lib.hid hm
    have hxl : x.length ≤ 140737488355328 := by have := (mayE_zero hm).2; have := HK.out.room2; omega
    by_cases hs : spendE s = 0
    · have hS : replaceS s x = { spendS s with l := x, synced := x.length } := by unfold replaceS; rw [if_pos hm, if_pos hs]
      rw [hS, hs]
      have HS := Lib.hid hs
      clear hm hs hE hS
      go_enter Tryd.func51, Tryd.ntmps51
      go_wp2_with (first
        | (go_at_call 62; refine (may_any _ w base b F s HH.out).mono ?_; rintro r w1 ⟨ev, rfl, hE, hB⟩
           obtain rfl := hE.nil HM.out
           have HB1 := Lib.hid hB
           have HT1 := Lib.hid (HH.out.below hB)
           clear hB hE)
        | (go_at_call 64; refine (spend_any w1 base b F s HK.out HT1.out).mono ?_; rintro r w2 ⟨ev2, rfl, hE2, hT2⟩
           have HE2 := Lib.hid hE2
           have HT2 := Lib.hid hT2
           have HG2 := Lib.hid (show Laid w2 from by obtain ⟨F2, _, _, hK2⟩ := hT2; exact laid_at (F2 := F2) (HG.out.below HB1.out) HB0.out HT1.out hK2)
           clear hE2 hT2)
        | (go_at_call 41; refine (wrap_any _ ev2 _ w2 HG2.out HE2.out).mono ?_; rintro r w3 ⟨ev3, rfl, hE3, hB3⟩
           obtain ⟨F3, A, c, hsp⟩ := Spent.of (HG.out.below HB1.out) HB0.out HT1.out HB1.out HT2.out hB3 hE3
           have q1 : w3.cell? ⟨b, 1, none⟩ = some (.slice A s.l.length c) := by rw [← spendS_l s]; exact blk_cell hsp.opn.blk 1
           have q2 : w3.cell? ⟨b, 2, none⟩ = some (.int .i64 ((spendS s).synced : Int)) := blk_cell hsp.opn.blk 2
           have f1 : w3.frozen? ⟨b, 1, none⟩ = false := blk_frozen hsp.opn.blk 1
           have f2 : w3.frozen? ⟨b, 2, none⟩ = false := blk_frozen hsp.opn.blk 2
           have HSP := Lib.hid hsp
           have hlt3 : b < w3.heap.size := blk_lt hsp.opn.blk
           have hs3 : ev3 = .nilIface := hE3.nil HS.out
           subst hs3
           clear hE3 hB3 hsp)
        | (go_at_call 49; refine (clone_any B _ cx x w3 (reads_keep HX.out HSP.out.keep HXB.out) hxl).mono ?_; rintro r w4 ⟨v4, rfl, hv4, hB4⟩
           have HV4 := Lib.hid hv4
           have HB4 := Lib.hid hB4
           have g1 : w4.frozen? ⟨b, 1, none⟩ = false := blk_frozen (blk_below HSP.out.opn.blk hB4) 1
           have g2 : w4.frozen? ⟨b, 2, none⟩ = false := blk_frozen (blk_below HSP.out.opn.blk hB4) 2
           have p1 : w4.cell? ⟨b, 1, none⟩ = some (.slice A (spendS s).l.length c) := blk_cell (blk_below HSP.out.opn.blk hB4) 1
           have p2 : w4.cell? ⟨b, 2, none⟩ = some (.int .i64 ((spendS s).synced : Int)) := blk_cell (blk_below HSP.out.opn.blk hB4) 2
           obtain ⟨A4, c4, rfl⟩ := hv4.slice
           have HT4 := Lib.hid (tape_repl HSP.out.opn hv4 hB4)
           clear hv4 hB4)
        | (go_at_call 63; refine (told_any .nilIface 0 _ (by obtain ⟨F5, _, _, hK5⟩ := HT4.out; exact laid_at (F2 := F5) HSP.out.laid HB0.out (spent_at HSP.out) hK5) (.inl ⟨rfl, rfl⟩)).mono ?_; rintro r w5 ⟨rfl, hB5⟩; have HB5 := Lib.hid hB5; clear hB5))
      go_ret
      exact ⟨rfl, (Tape'.after HSP.out.sub HSP.out.keep HT4.out).below HB5.out⟩
    · have hS : replaceS s x = spendS s := by unfold replaceS; rw [if_pos hm, if_neg hs]
      rw [hS]
      have HS := Lib.hid hs
      clear hm hs hE hS
      go_enter Tryd.func51, Tryd.ntmps51
      go_wp2_with (first
        | (go_at_call 62; refine (may_any _ w base b F s HH.out).mono ?_; rintro r w1 ⟨ev, rfl, hE, hB⟩
           obtain rfl := hE.nil HM.out
           have HB1 := Lib.hid hB
           have HT1 := Lib.hid (HH.out.below hB)
           clear hB hE)
        | (go_at_call 64; refine (spend_any w1 base b F s HK.out HT1.out).mono ?_; rintro r w2 ⟨ev2, rfl, hE2, hT2⟩
           have HE2 := Lib.hid hE2
           have HT2 := Lib.hid hT2
           have HG2 := Lib.hid (show Laid w2 from by obtain ⟨F2, _, _, hK2⟩ := hT2; exact laid_at (F2 := F2) (HG.out.below HB1.out) HB0.out HT1.out hK2)
           clear hE2 hT2)
        | (go_at_call 41; refine (wrap_any _ ev2 _ w2 HG2.out HE2.out).mono ?_; rintro r w3 ⟨ev3, rfl, hE3, hB3⟩
           obtain ⟨F3, A, c, hsp⟩ := Spent.of (HG.out.below HB1.out) HB0.out HT1.out HB1.out HT2.out hB3 hE3
           have q1 : w3.cell? ⟨b, 1, none⟩ = some (.slice A s.l.length c) := by rw [← spendS_l s]; exact blk_cell hsp.opn.blk 1
           have q2 : w3.cell? ⟨b, 2, none⟩ = some (.int .i64 ((spendS s).synced : Int)) := blk_cell hsp.opn.blk 2
           have f1 : w3.frozen? ⟨b, 1, none⟩ = false := blk_frozen hsp.opn.blk 1
           have f2 : w3.frozen? ⟨b, 2, none⟩ = false := blk_frozen hsp.opn.blk 2
           have HSP := Lib.hid hsp
           have hlt3 : b < w3.heap.size := blk_lt hsp.opn.blk
           obtain ⟨b3, hev3⟩ := hE3.some HS.out
           subst hev3
           clear hE3 hB3 hsp)
        | (go_at_call 63; refine (told_any _ (spendE s) _ HSP.out.laid HSP.out.err).mono ?_; rintro r w5 ⟨rfl, hB5⟩; have HB5 := Lib.hid hB5; clear hB5))
      go_ret
      exact ⟨rfl, (Tape'.after HSP.out.sub HSP.out.keep (Tape'.refl (spent_at HSP.out))).below HB5.out⟩
  · have hE : replaceE s x = mayE s (x.length : Int) := if_neg hm
    have hS : replaceS s x = s := if_neg hm
    rw [hE, hS]
    have HM := Lib.hid hm
    clear hm hE hS
    go_enter Tryd.func51, Tryd.ntmps51
    go_wp2_with (first
      | (go_at_call 62; refine (may_any _ w base b F s HH.out).mono ?_; rintro r w1 ⟨ev, rfl, hE, hB⟩
         obtain ⟨b3, ps3, rfl, hA3⟩ := hE.some HM.out
         have HB1 := Lib.hid hB
         have HT1 := Lib.hid (HH.out.below hB)
         have HE1 := Lib.hid hE.t
         clear hB hE hA3)
      | (go_at_call 63; refine (told_any _ (mayE s (x.length : Int)) _ (HG.out.below HB1.out) HE1.out).mono ?_; rintro r w5 ⟨rfl, hB5⟩; have HB5 := Lib.hid hB5; clear hB5))
    go_ret
    exact ⟨rfl, (Tape'.after (fun _ h => .inl h) (Keep.of_below HB1.out F) (Tape'.refl HT1.out)).below HB5.out⟩
end Go.Proofs.YtfnnjgbldojigaaDoor
