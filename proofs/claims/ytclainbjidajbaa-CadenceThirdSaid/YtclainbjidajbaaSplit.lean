/- The contract of the reference's Split. -/
import Derived.Test.YtclainbjidajbaaWideD
namespace Go.Proofs.Ytclainbjidajbaa
open Go.RowKit

theorem q_le {q r a m num den : Int} (h : q * den + r = a * num) (h0 : 0 ≤ r) (ha : a ≤ m) (hn : 0 ≤ num) (hd : 0 < den) : q ≤ m * num / den := by
  apply Int.le_ediv_of_mul_le hd
  have := Int.mul_le_mul_of_nonneg_right ha hn
  omega

def SplRel (m num den : Int) (w : World) (a b i : Value) (wr : World) : Prop :=
  ∃ (k d : Nat) (q r : Int), k ≤ 32 ∧ 0 ≤ q ∧ 0 ≤ r ∧ r < den ∧ q * den + r = m / 2 ^ k * num ∧ a = .int .i64 q ∧ b = .int .i64 r ∧ i = .int .i64 ((k : Int) - 1) ∧ wr = w.drewN d
def SplIn (a num den : Int) (x y : Value) : Prop :=
  ∃ (q r : Int), 0 ≤ q ∧ 0 ≤ r ∧ r ≤ 2305843009213693952 ∧ q * den + r = a * num ∧ x = .int .i64 q ∧ y = .int .i64 r

theorem split_bit (m : Int) (j : Nat) : m / 2 ^ j = 2 * (m / 2 ^ (j + 1)) + m / 2 ^ j % 2 := by
  have e : m / 2 ^ (j + 1) = m / 2 ^ j / 2 := by rw [Int.pow_succ, Int.ediv_ediv_of_nonneg (Int.pow_nonneg (by omega))]
  rw [e]; omega
theorem pow_div_le (m : Int) (j : Nat) (h : 0 ≤ m) : 0 ≤ m / 2 ^ j ∧ m / 2 ^ j ≤ m :=
  ⟨Int.ediv_nonneg h (Int.pow_nonneg (by omega)), Int.ediv_le_self _ h⟩
theorem split_out {q r A num den m : Int} (h : q * den + r = A * num) (h0 : 0 ≤ r) (h1 : r < den) (e : A = m) : m * num / den = q ∧ m * num % den = r := by
  subst e
  exact split_done h h0 h1
theorem split_inc {q r den z : Int} (h : q * den + r = z) : (q + 1) * den + (r - den) = z := by
  rw [Int.add_mul]; omega

theorem split_neg {m num den q r : Int} (h1 : m * num / den = q) (h2 : m * num % den = r) (hd : 0 < den) :
    (r = 0 ∧ -m * num / den = -q ∧ -m * num % den = 0) ∨ (0 < r ∧ -m * num / den = -q - 1 ∧ -m * num % den = den - r) := by
  have e := Int.mul_ediv_add_emod (m * num) den
  rw [h1, h2] at e
  have g3 := Int.emod_nonneg (m * num) (show den ≠ 0 by omega)
  have g4 := Int.emod_lt_of_pos (m * num) hd
  rw [h2] at g3 g4
  rw [Int.neg_mul]
  rcases (by omega : r = 0 ∨ 0 < r) with h0 | h0
  · left
    refine ⟨h0, (Int.ediv_emod_unique hd).2 ⟨?_, by omega, by omega⟩⟩
    rw [Int.mul_neg]; omega
  · right
    refine ⟨h0, (Int.ediv_emod_unique hd).2 ⟨?_, by omega, by omega⟩⟩
    rw [Int.mul_sub, Int.mul_neg]; omega



end Go.Proofs.Ytclainbjidajbaa
