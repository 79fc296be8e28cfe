/- What wire reads, plainly: a state is the bytes that are left, and an error's number (0: none). -/
import Derived.Test.YtkdlghbfplhkpaaDoorBoundsP
import Derived.Laws.Bits64b
set_option linter.unusedVariables false
set_option linter.unusedSimpArgs false
namespace Go.Proofs.YtkdlghbfplhkpaaDoor
open Go.RowKit Go.Proofs.YtkdlghbfplhkpaaDoorW.PrintWords Go.Proofs.Mine

abbrev St := List Int × Int
def badS (s : St) (e : Int) : St := (s.1, orE s.2 e)
def takeV (s : St) (n : Nat) : List Int := if s.2 = 0 ∧ n ≤ s.1.length then s.1.take n else List.replicate n 0
def takeS (s : St) (n : Nat) : St := if s.2 = 0 ∧ n ≤ s.1.length then (s.1.drop n, 0) else badS s 8
def oneV (s : St) : Int := (takeV s 1).getD 0 0
def oneS (s : St) : St := takeS s 1
def Byt (l : List Int) : Prop := ∀ x ∈ l, 0 ≤ x ∧ x < 256
def val (l : List Int) : Int := l.foldl (fun n x => n * 256 + x) 0
def numV (s : St) : Int := IntKind.i64.wrap (val (takeV s 8))
def numS (s : St) : St := takeS s 8
def countV (s : St) (most : Int) : Int := if most < oneV s then 0 else oneV s
def countS (s : St) (most : Int) : St := if most < oneV s then badS (oneS s) 4 else oneS s
def sortS (s : St) (f t : Int) : St := if oneV s < f ∨ t < oneV s then badS (oneS s) 3 else oneS s
def strS (s : St) : St := if 16 < oneV s then badS (oneS s) 5 else takeS (oneS s) (oneV s).toNat
def strV (s : St) : List Int := if 16 < oneV s then [] else if (strS s).2 = 0 then takeV (oneS s) (oneV s).toNat else []
def numsL : Nat → St → List Int × St
  | 0, s => ([], s)
  | n + 1, s => if s.2 = 0 then (numV s :: (numsL n (numS s)).1, (numsL n (numS s)).2) else ([], s)
def numbersV (s : St) (most : Int) : List Int := (numsL (countV s most).toNat (countS s most)).1
def numbersS (s : St) (most : Int) : St := (numsL (countV s most).toNat (countS s most)).2
def endE (s : St) : Int := if s.2 = 0 then (if 0 < s.1.length then 9 else 0) else s.2

theorem Byt.take {l : List Int} (h : Byt l) (n : Nat) : Byt (l.take n) := fun x hx => h x (List.mem_of_mem_take hx)
theorem Byt.drop {l : List Int} (h : Byt l) (n : Nat) : Byt (l.drop n) := fun x hx => h x (List.mem_of_mem_drop hx)
theorem Byt.zeros (n : Nat) : Byt (List.replicate n 0) := fun x hx => by rw [List.eq_of_mem_replicate hx]; exact ⟨by decide, by decide⟩
theorem Byt.append {l m : List Int} (h : Byt l) (k : Byt m) : Byt (l ++ m) := fun x hx => (List.mem_append.1 hx).elim (h x) (k x)
theorem bytes_takeV {s : St} (h : Byt s.1) (n : Nat) : Byt (takeV s n) := by
  unfold takeV; split
  · exact h.take n
  · exact Byt.zeros n
theorem bytes_takeS {s : St} (h : Byt s.1) (n : Nat) : Byt (takeS s n).1 := by
  unfold takeS; split
  · exact h.drop n
  · exact h
theorem takeV_length (s : St) (n : Nat) : (takeV s n).length = n := by unfold takeV; split <;> simp; omega
theorem badS_ne {s : St} {e : Int} (he : e ≠ 0) : (badS s e).2 ≠ 0 := by unfold badS orE; dsimp only; split <;> assumption
theorem takeS_ok {s : St} {n : Nat} (h : s.2 = 0 ∧ n ≤ s.1.length) : takeS s n = (s.1.drop n, 0) := if_pos h
theorem takeV_ok {s : St} {n : Nat} (h : s.2 = 0 ∧ n ≤ s.1.length) : takeV s n = s.1.take n := if_pos h
theorem takeS_no {s : St} {n : Nat} (h : ¬ (s.2 = 0 ∧ n ≤ s.1.length)) : takeS s n = badS s 8 := if_neg h
theorem takeV_no {s : St} {n : Nat} (h : ¬ (s.2 = 0 ∧ n ≤ s.1.length)) : takeV s n = List.replicate n 0 := if_neg h
theorem oneV_byte {s : St} (h : Byt s.1) : 0 ≤ oneV s ∧ oneV s < 256 := by
  unfold oneV
  have hl := takeV_length s 1
  match hm : takeV s 1, hl with
  | [x], _ => exact bytes_takeV h 1 x (by rw [hm]; simp)
theorem val_snoc (l : List Int) (x : Int) : val (l ++ [x]) = val l * 256 + x := by simp [val, List.foldl_append]
theorem val_from (l : List Int) (h : Byt l) : ∀ a : Int, 0 ≤ a → a ≤ l.foldl (fun n x => n * 256 + x) a ∧ l.foldl (fun n x => n * 256 + x) a < (a + 1) * 256 ^ l.length := by
  induction l with
  | nil => intro a ha; simp; omega
  | cons x l ih =>
    intro a ha
    have hx := h x (by simp)
    have h2 := ih (fun y hy => h y (by simp [hy])) (a * 256 + x) (by omega)
    refine ⟨by have := h2.1; simp only [List.foldl_cons]; omega, ?_⟩
    simp only [List.foldl_cons, List.length_cons]
    have h3 : (a * 256 + x + 1) * 256 ^ l.length ≤ ((a + 1) * 256) * 256 ^ l.length := Int.mul_le_mul_of_nonneg_right (by omega) (Int.pow_nonneg (by decide))
    rw [Int.pow_succ, Int.mul_comm (256 ^ l.length) 256, ← Int.mul_assoc]
    omega
theorem val_bound (l : List Int) (h : Byt l) : 0 ≤ val l ∧ val l < 256 ^ l.length := by
  have := val_from l h 0 (by decide)
  exact ⟨this.1, by simpa [val] using this.2⟩
theorem val_small {l : List Int} (h : Byt l) (hl : l.length ≤ 7) : 0 ≤ val l ∧ val l < 72057594037927936 := by
  have h1 := val_bound l h
  have h2 : (256 : Int) ^ l.length ≤ 72057594037927936 := by
    have h3 := Nat.pow_le_pow_right (show 0 < 256 by decide) hl
    have h4 : (((256 : Nat) ^ l.length : Nat) : Int) ≤ ((256 ^ 7 : Nat) : Int) := Int.ofNat_le.2 h3
    rw [Int.natCast_pow] at h4
    exact h4
  exact ⟨h1.1, Int.lt_of_lt_of_le h1.2 h2⟩
theorem or_byte (n x : Int) (h0 : 0 ≤ n) (h1 : n < 72057594037927936) (hx : 0 ≤ x) (hx1 : x < 256) : bits .or .u64 (n * 256) x = n * 256 + x := by
  obtain ⟨a, rfl⟩ : ∃ a : Nat, n = (a : Int) := ⟨n.toNat, by omega⟩
  obtain ⟨y, rfl⟩ : ∃ y : Nat, x = (y : Int) := ⟨x.toNat, by omega⟩
  have h := bits_or_u64_nat (a * 256) y (by omega) (by omega)
  have e : a * 256 ||| y = a * 256 + y := by
    have := Nat.shiftLeft_add_eq_or_of_lt (i := 8) (show y < 2 ^ 8 by omega) a
    rw [Nat.shiftLeft_eq] at this
    exact this.symm
  rw [e] at h
  have c1 : ((a * 256 : Nat) : Int) = (a : Int) * 256 := by omega
  rw [c1] at h
  rw [h, Int.natCast_add, c1]
theorem numsL_length (n : Nat) : ∀ s : St, (numsL n s).1.length ≤ n := by
  induction n with
  | zero => intro s; simp [numsL]
  | succ n ih =>
    intro s
    unfold numsL
    split
    · simpa using ih (numS s)
    · simp
theorem bytes_one {s : St} (h : Byt s.1) : Byt (oneS s).1 := bytes_takeS h 1
theorem bytes_num {s : St} (h : Byt s.1) : Byt (numS s).1 := bytes_takeS h 8
end Go.Proofs.YtkdlghbfplhkpaaDoor
