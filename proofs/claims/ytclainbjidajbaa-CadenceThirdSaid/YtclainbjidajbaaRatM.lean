/- Plain numbers under the package rational: floors of negative numbers, common divisors, numbers of 128 bits. No condition. -/
import Derived.WalkKit
namespace Go.Proofs.Ytclainbjidajbaa

theorem floor_neg (V den : Nat) (hd : 0 < den) :
    (V % den = 0 ∧ (-(V : Int)) / den = -((V / den : Nat) : Int) ∧ (-(V : Int)) % den = 0) ∨
    (0 < V % den ∧ (-(V : Int)) / den = -((V / den : Nat) : Int) - 1 ∧ (-(V : Int)) % den = den - ((V % den : Nat) : Int)) := by
  have h : (den : Int) * ((V / den : Nat) : Int) + ((V % den : Nat) : Int) = V := by exact_mod_cast Nat.div_add_mod V den
  have hlt := Nat.mod_lt V hd
  rcases Nat.eq_zero_or_pos (V % den) with h0 | h0
  · left
    refine ⟨h0, (Int.ediv_emod_unique (by omega)).2 ⟨?_, by omega, by omega⟩⟩
    rw [Int.mul_neg]; omega
  · right
    refine ⟨h0, (Int.ediv_emod_unique (by omega)).2 ⟨?_, by omega, by omega⟩⟩
    rw [Int.mul_sub, Int.mul_neg]; omega

/-- A number of up to 128 bits and a sign, as the program keeps it. -/
def wideV (z : Int) : Value := .agg #[.bool (decide (z < 0)), .int .u64 ((z.natAbs / 18446744073709551616 : Nat) : Int), .int .u64 ((z.natAbs % 18446744073709551616 : Nat) : Int)]

def fitsB (q : Int) : Bool := decide (-9223372036854775808 ≤ q ∧ q ≤ 9223372036854775807)

def validR (n d : Int) : Bool := decide (1 ≤ d ∧ -9223372036854775808 < n ∧ Nat.gcd n.natAbs d.natAbs = 1)
def usableR (n d : Int) : Bool := decide (1 ≤ n ∧ n ≤ 1048576 ∧ 1 ≤ d ∧ d ≤ 65536 ∧ Nat.gcd n.natAbs d.natAbs = 1)
def scaleR (n d : Int) : Bool := decide (1 ≤ n ∧ n ≤ 2147483648 ∧ 1 ≤ d ∧ d ≤ 2147483648 ∧ Nat.gcd n.natAbs d.natAbs = 1)
theorem usableR_iff (n d : Int) : usableR n d = true ↔ 1 ≤ n ∧ n ≤ 1048576 ∧ 1 ≤ d ∧ d ≤ 65536 ∧ Nat.gcd n.natAbs d.natAbs = 1 := by simp [usableR]
theorem usableR_valid (n d : Int) : usableR n d = (validR n d && (decide (1 ≤ n) && (decide (n ≤ 1048576) && decide (d ≤ 65536)))) := by
  rw [Bool.eq_iff_iff]; simp only [usableR, validR, Bool.and_eq_true, decide_eq_true_eq]; omega
theorem scaleR_valid (n d : Int) : scaleR n d = (validR n d && (decide (0 < n) && (decide (n ≤ 2147483648) && decide (d ≤ 2147483648)))) := by
  rw [Bool.eq_iff_iff]; simp only [scaleR, validR, Bool.and_eq_true, decide_eq_true_eq]; omega
theorem scale_of_usable {n d : Int} (h : usableR n d = true) : scaleR n d = true := by
  simp only [scaleR, usableR, decide_eq_true_eq] at *; omega

theorem mulDiv_lt {x y m n : Int} (hx0 : 0 ≤ x) (hx : x ≤ m) (hy0 : 0 ≤ y) (hy : y ≤ n) : 0 ≤ x * y ∧ x * y ≤ m * n :=
  ⟨Int.mul_nonneg hx0 hy0, Int.mul_le_mul hx hy hy0 (by omega)⟩

/-! The binary school method of Split. -/
theorem split_step {a num den q r : Int} (b : Int) (hd : 0 < den) (h : q * den + r = a * num) :
    (2 * q + b * (num / den)) * den + (2 * r + b * (num % den)) = (2 * a + b) * num := by
  have e : num = den * (num / den) + num % den := (Int.mul_ediv_add_emod num den).symm
  have e2 : (2 * a + b) * num = 2 * (a * num) + b * num := by rw [Int.add_mul, Int.mul_assoc]
  rw [e2, ← h]
  have e3 : b * num = b * (num / den) * den + b * (num % den) := by
    conv => lhs; rw [e]
    rw [Int.mul_add, Int.mul_assoc, Int.mul_comm den]
  rw [e3, Int.add_mul, Int.mul_assoc 2 q den]
  omega
theorem split_done {q r den z : Int} (h : q * den + r = z) (h0 : 0 ≤ r) (h1 : r < den) : z / den = q ∧ z % den = r :=
  (Int.ediv_emod_unique (by omega)).2 ⟨by rw [Int.mul_comm]; omega, h0, h1⟩
end Go.Proofs.Ytclainbjidajbaa
