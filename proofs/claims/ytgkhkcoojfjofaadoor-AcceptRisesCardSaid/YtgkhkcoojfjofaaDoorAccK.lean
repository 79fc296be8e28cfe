/- Acceptors without votes; what the example says. -/
import Derived.Test.YtgkhkcoojfjofaaDoorAccW
set_option linter.unusedVariables false
set_option linter.unusedSimpArgs false
namespace Go.Proofs.YtgkhkcoojfjofaaDoor
open Go.RowKit Go.Shelf Go.Proofs.YtgkhkcoojfjofaaDoorW.PrintWords Go.Proofs.Mine

set_option maxRecDepth 100000 in
set_option maxHeartbeats 2000000 in
theorem ins_short (n : Nat) (hn : n ≤ 1) (A : Option Addr) (c : Nat) (f : Value) (w : World) : Calls Tryd.prog 43 #[.slice A n c, .int .i64 0, .int .i64 (n : Int), f] w fun r w' => r = .returned (.tuple #[]) ∧ w = w' := by
  have h1 : ¬ (1 : Int) < (n : Int) := by omega
  go_enter Tryd.func43, Tryd.ntmps43
  go_wp2_with fail
  go_loopw [8] (fun iv wr => iv = .int .i64 1 ∧ wr = w) (fun _ _ => 0)
  case atStart => exact ⟨rfl, rfl⟩
  case round =>
    obtain ⟨rfl, rfl⟩ := hrel
    go_wp2_with fail
    go_end0
    exact ⟨rfl, rfl⟩
set_option maxRecDepth 100000 in
set_option maxHeartbeats 2000000 in
theorem len_small (n : Nat) (hn : n ≤ 1) (w : World) : Calls Tryd.prog 38 #[.int .u64 (n : Int)] w fun r w' => (∃ k, r = .returned (.int .i64 k)) ∧ w = w' := by
  have h64 : Calls Tryd.prog 52 #[.int .u64 (n : Int)] w fun r w' => (∃ k, r = .returned (.int .i64 k)) ∧ w = w' := by
    rcases (show n = 0 ∨ n = 1 by omega) with rfl | rfl
    · go_enter Tryd.func52, Tryd.ntmps52
      go_wp2_with fail
      go_ret
      exact ⟨⟨_, rfl⟩, rfl⟩
    · go_enter Tryd.func52, Tryd.ntmps52
      go_wp2_with fail
      go_ret
      exact ⟨⟨_, rfl⟩, rfl⟩
  have H := Lib.hid h64
  clear h64
  go_enter Tryd.func38, Tryd.ntmps38
  go_wp2_with (go_at_call 52; refine H.out.mono ?_; rintro r w' ⟨⟨k, rfl⟩, rfl⟩)
  go_ret
  exact ⟨⟨_, rfl⟩, rfl⟩
set_option maxRecDepth 100000 in
set_option maxHeartbeats 2000000 in
theorem pdq_short (n : Nat) (hn : n ≤ 1) (A : Option Addr) (c : Nat) (lim : Int) (f : Value) (w : World) : Calls Tryd.prog 37 #[.slice A n c, .int .i64 0, .int .i64 (n : Int), .int .i64 lim, f] w fun r w' => r = .returned (.tuple #[]) ∧ w = w' := by
  have h1 : (n : Int) ≤ 12 := by omega
  go_enter Tryd.func37, Tryd.ntmps37
  go_wp2_with fail
  go_loopw [1, 2, 3, 10, 11] (fun a b l _ _ wr => a = .int .i64 0 ∧ b = .int .i64 (n : Int) ∧ l = .int .i64 lim ∧ wr = w) (fun _ _ _ _ _ _ => 0)
  case atStart => exact ⟨rfl, rfl, rfl, rfl⟩
  case round =>
    obtain ⟨rfl, rfl, rfl, rfl⟩ := hrel
    go_wp2_with (go_at_call 43; refine (ins_short n hn A c f _).mono ?_; rintro r w' ⟨rfl, rfl⟩)
    exact bodyPost_ret (v := .tuple #[]) (by simp [results, Tryd.results37, go_sem]) rfl ⟨rfl, rfl⟩
set_option maxRecDepth 100000 in
set_option maxHeartbeats 2000000 in
theorem sort_short (n : Nat) (hn : n ≤ 1) (A : Option Addr) (c : Nat) (f : Value) (w : World) : Calls Tryd.prog 29 #[.slice A n c, f] w fun r w' => r = .returned (.tuple #[]) ∧ w = w' := by
  have hwu : IntKind.u64.wrap (n : Int) = (n : Int) := by rw [IntKind.wrap_u64]; omega
  go_enter Tryd.func29, Tryd.ntmps29
  go_wp2_with (first
    | (go_at_call 37; refine (pdq_short n hn A c _ f _).mono ?_; rintro r w' ⟨rfl, rfl⟩)
    | (go_at_call 38; refine (len_small n hn _).mono ?_; rintro r w' ⟨⟨k, rfl⟩, rfl⟩))
  go_end0
  exact ⟨rfl, rfl⟩
/-- An acceptor without votes. -/
def AccE (w : World) (b m : Nat) (p : Int) : Prop := w.heap[b]? = some (.cells #[.int .i64 p, .map (some m)] 66 (0, 0)) ∧ w.heap[m]? = some (.map #[] 0)
theorem AccE.below {w w1 : World} {b m : Nat} {p : Int} (h : AccE w b m p) (hB : Below w.heap.size w w1) : AccE w1 b m p := ⟨blk_below h.1 hB, (hB.block m (Array.getElem?_eq_some_iff.1 h.2).1).trans h.2⟩
set_option maxRecDepth 100000 in
set_option maxHeartbeats 2000000 in
theorem promise_ok (b p : Nat) (n q : Int) (v : Value) (w : World) (hb : w.heap[b]? = some (.cells #[.int .i64 q, v] 66 (0, 0))) (h1 : 1 ≤ n) (h2 : q ≤ n) :
    Calls Tryd.prog 24 #[.pointer (some ⟨b, 0, none⟩), .int .i64 n] w fun r w' => r = .returned .nilIface ∧ w' = w.setCell ⟨b, 0, none⟩ (.int .i64 n) := by
  have q0 : w.cell? ⟨b, 0, none⟩ = some (.int .i64 q) := blk_cell hb 0
  have f0 : w.frozen? ⟨b, 0, none⟩ = false := blk_frozen hb 0
  clear hb
  go_enter Tryd.func24, Tryd.ntmps24
  go_wp2
  go_ret
  exact ⟨rfl, rfl⟩
theorem promise_stale (b : Nat) (n q : Int) (w : World) (hb : w.cell? ⟨b, 0, none⟩ = some (.int .i64 q)) (h1 : 1 ≤ n) (h2 : n < q) :
    Calls Tryd.prog 24 #[.pointer (some ⟨b, 0, none⟩), .int .i64 n] w fun r w' => ∃ b2, r = .returned (.iface 84 (.pointer (some ⟨b2, 0, none⟩))) ∧ w'.cell? ⟨b2, 1, none⟩ = some (.iface 33 (.int .i64 19)) ∧ Below w.heap.size w w' := by
  go_enter Tryd.func24, Tryd.ntmps24
  go_wp2_with (go_at_call 32; refine (new_any _ _ _ (by decide)).mono ?_; rintro r w1 ⟨b2, rfl, hA, hB⟩; have HA := Lib.hid (show w1.cell? ⟨b2, 1, none⟩ = some (.iface 33 (.int .i64 19)) from AtIs.err hA); have HB := Lib.hid hB; clear hA hB)
  go_ret
  exact ⟨b2, rfl, HA.out, HB.out⟩
set_option maxRecDepth 100000 in
set_option maxHeartbeats 2000000 in
theorem told_stale (b : Nat) (w : World) (hb : w.cell? ⟨b, 1, none⟩ = some (.iface 33 (.int .i64 19))) :
    Calls Tryd.prog 25 #[.iface 84 (.pointer (some ⟨b, 0, none⟩))] w fun r w' => r = .returned (.int .i64 19) ∧ w = w' := by
  go_enter Tryd.func25, Tryd.ntmps25
  go_wp2_with (go_at_call 33; refine (is_at_num b 19 19 w hb).mono ?_; rintro r w1 ⟨rfl, rfl⟩; rw [show ((19 : Int) == 19) = true from rfl])
  go_ret
  exact ⟨rfl, rfl⟩
end Go.Proofs.YtgkhkcoojfjofaaDoor
