/- The walks of may, Wrap at its errors. -/
import Derived.Test.YtgkinjfinijnnaaDoorPeerW
set_option linter.unusedVariables false
set_option linter.unusedSimpArgs false
namespace Go.Proofs.YtgkinjfinijnnaaDoor
open Go.RowKit Go.Proofs.YtgkinjfinijnnaaDoorW.PrintWords Go.Proofs.Mine

/-- What may tells: none, or an error of a number, met at one place. -/
def MayE (w : World) (v : Value) (n : Int) : Prop := (n = 0 ∧ v = .nilIface) ∨ (n ≠ 0 ∧ ∃ b s, v = .iface 56 (.pointer (some ⟨b, 0, none⟩)) ∧ AtIs w b [s] (.num n))
/-- What Wrap makes of it. -/
def WrE (w : World) (v : Value) (n : Int) : Prop := (n = 0 ∧ v = .nilIface) ∨ (n ≠ 0 ∧ ∃ b, v = .iface 56 (.pointer (some ⟨b, 0, none⟩)) ∧ w.cell? ⟨b, 1, none⟩ = some (.iface 26 (.int .i64 n)))
def mayE (p : Pr) (life n : Int) : Int := if life < 1 ∨ n < 1 then 1 else if life < p.life then 19 else if life = p.life ∧ (tk p n = true ∨ n ≤ p.most - 256) then 7 else 0
theorem new_may (s : ByteArray) (n : Int) (w : World) (hn : n ≠ 0) : Calls Tryd.prog 20 #[.string s, .int .i64 n] w fun e w' => ∃ v, e = .returned v ∧ MayE w' v n ∧ Below w.heap.size w w' := by
  refine (new_any s n w hn).mono ?_
  rintro e w' ⟨b, rfl, ha, hB⟩
  exact ⟨_, rfl, .inr ⟨hn, b, s, rfl, ha⟩, hB⟩
def numberS : ByteArray := { data := #[110, 117, 109, 98, 101, 114] }
def lifeS : ByteArray := { data := #[108, 105, 102, 101] }
def againS : ByteArray := { data := #[97, 103, 97, 105, 110] }
theorem Tryd.zero4 (w : World) : (zeroValue 4).run Tryd.prog w = .ok (.bool false) w := by kernel_rfl
theorem tk_look {w : World} {g : Nat × Nat} {p : Pr} (h : PeerAt w g p) (n : Int) : (Instr.lookup 53 (.map (some g.2)) (.int .i64 n) false).run Tryd.prog w = .ok (.bool (tk p n)) w := by
  rw [h.2.lookup Tryd.underlying53 Tryd.underlying3 (Tryd.zero4 w)]
  unfold tk
  cases p.taken n <;> rfl
set_option maxRecDepth 100000 in
set_option maxHeartbeats 4000000 in
theorem may_any (w : World) (g m : Nat) (p : Pr) (life n : Int) (h : PeerAt w (g, m) p) (h0 : 0 ≤ p.most) (h1 : p.most ≤ 4611686018427387904) :
    Calls Tryd.prog 16 #[.pointer (some ⟨g, 0, none⟩), .int .i64 life, .int .i64 n] w fun e w' => ∃ v, e = .returned v ∧ MayE w' v (mayE p life n) ∧ Below w.heap.size w w' := by
  have hc1 := blk_cell h.1 1
  have hc2 := blk_cell h.1 2
  have hc3 := blk_cell h.1 3
  have hlk := tk_look h n
  have hE : mayE p life n = if life < 1 ∨ n < 1 then 1 else if life < p.life then 19 else if life = p.life ∧ (tk p n = true ∨ n ≤ p.most - 256) then 7 else 0 := rfl
  generalize mayE p life n = E at *
  generalize tk p n = t at *
  clear h
  by_cases k1 : life < 1
  · rw [if_pos (.inl k1)] at hE
    subst hE
    go_enter Tryd.func16, Tryd.ntmps16
    go_wp2_with (go_at_call 20; refine (new_may numberS 1 _ (by decide)).mono ?_; rintro e w1 ⟨v, rfl, hF, hB⟩; have HF := Lib.hid hF; have HB := Lib.hid hB; clear hF hB)
    go_ret
    exact ⟨_, rfl, HF.out, HB.out⟩
  by_cases k2 : n < 1
  · rw [if_pos (.inr k2)] at hE
    subst hE
    go_enter Tryd.func16, Tryd.ntmps16
    go_wp2_with (go_at_call 20; refine (new_may numberS 1 _ (by decide)).mono ?_; rintro e w1 ⟨v, rfl, hF, hB⟩; have HF := Lib.hid hF; have HB := Lib.hid hB; clear hF hB)
    go_ret
    exact ⟨_, rfl, HF.out, HB.out⟩
  rw [if_neg (by omega)] at hE
  by_cases k3 : life < p.life
  · rw [if_pos k3] at hE
    subst hE
    go_enter Tryd.func16, Tryd.ntmps16
    go_wp2_with (go_at_call 20; refine (new_may lifeS 19 _ (by decide)).mono ?_; rintro e w1 ⟨v, rfl, hF, hB⟩; have HF := Lib.hid hF; have HB := Lib.hid hB; clear hF hB)
    go_ret
    exact ⟨_, rfl, HF.out, HB.out⟩
  rw [if_neg k3] at hE
  by_cases k4 : life = p.life
  · by_cases k5 : n ≤ p.most - 256
    · rw [if_pos ⟨k4, .inr k5⟩] at hE
      subst hE
      have e4 : (life == p.life) = true := by simpa using k4
      have HK4 := Lib.hid k4
      clear k4
      cases t
      all_goals
        go_enter Tryd.func16, Tryd.ntmps16
        go_wp2_with (go_at_call 20; refine (new_may againS 7 _ (by decide)).mono ?_; rintro e w1 ⟨v, rfl, hF, hB⟩; have HF := Lib.hid hF; have HB := Lib.hid hB; clear hF hB)
        go_ret
        exact ⟨_, rfl, HF.out, HB.out⟩
    · have e4 : (life == p.life) = true := by simpa using k4
      cases t
      · rw [if_neg (by rintro ⟨_, h | h⟩; cases h; exact k5 h)] at hE
        subst hE
        clear k4
        go_enter Tryd.func16, Tryd.ntmps16
        go_wp2
        go_ret
        exact ⟨_, rfl, .inl ⟨rfl, rfl⟩, Below.refl _ _⟩
      · rw [if_pos ⟨k4, .inl rfl⟩] at hE
        subst hE
        clear k4
        go_enter Tryd.func16, Tryd.ntmps16
        go_wp2_with (go_at_call 20; refine (new_may againS 7 _ (by decide)).mono ?_; rintro e w1 ⟨v, rfl, hF, hB⟩; have HF := Lib.hid hF; have HB := Lib.hid hB; clear hF hB)
        go_ret
        exact ⟨_, rfl, HF.out, HB.out⟩
  · rw [if_neg (fun h => k4 h.1)] at hE
    subst hE
    have e4 : (life == p.life) = false := by simpa using k4
    clear k4
    go_enter Tryd.func16, Tryd.ntmps16
    go_wp2
    go_ret
    exact ⟨_, rfl, .inl ⟨rfl, rfl⟩, Below.refl _ _⟩
def takeS : ByteArray := { data := #[116, 97, 107, 101] }
theorem wrap_may (w : World) (v : Value) (n : Int) (hg : Laid w) (h : MayE w v n) : Calls Tryd.prog 14 #[.string takeS, v] w fun e w' => ∃ u, e = .returned u ∧ WrE w' u n ∧ Below w.heap.size w w' := by
  rcases h with ⟨rfl, rfl⟩ | ⟨hn, b, s, rfl, ha⟩
  · refine (wrap_nil takeS w).mono ?_
    rintro e w' ⟨rfl, rfl⟩
    exact ⟨_, rfl, .inl ⟨rfl, rfl⟩, Below.refl _ _⟩
  · refine (wrap_more takeS b [s] (.num n) w hg ha (by simp)).mono ?_
    rintro e w' ⟨b', rfl, ha', hB⟩
    exact ⟨_, rfl, .inr ⟨hn, b', rfl, ha'.err⟩, hB⟩
end Go.Proofs.YtgkinjfinijnnaaDoor
