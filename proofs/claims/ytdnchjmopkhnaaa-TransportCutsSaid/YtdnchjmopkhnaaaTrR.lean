/- Plain: the bits of a clock, put into bytes; the reference's adaptation. -/
import Derived.Test.YtdnchjmopkhnaaaTrV
import Derived.Test.YtdnchjmopkhnaaaPayR
namespace Go.Proofs.Ytdnchjmopkhnaaa
open Go.RowKit

theorem bitsF_at (v : Int) : ∀ (n i : Nat), i < n → (bitsF v n)[i]? = some (v / 2 ^ (n - 1 - i) % 2)
  | n + 1, 0, _ => by simp [bitsF]
  | n + 1, i + 1, h => by
    have := bitsF_at v n i (by omega)
    simp only [bitsF, List.getElem?_cons_succ, this]
    rw [show n - 1 - i = n + 1 - 1 - (i + 1) by omega]
theorem bitsF_app (a b : Int) (m n : Nat) (h0 : 0 ≤ b) (h1 : b < 2 ^ n) : bitsF a m ++ bitsF b n = bitsF (a * 2 ^ n + b) (m + n) := by
  apply List.ext_getElem?
  intro i
  by_cases hi : i < m + n
  · rw [bitsF_at _ _ i hi]
    by_cases hm : i < m
    · rw [List.getElem?_append_left (by rw [bitsF_len]; exact hm), bitsF_at _ _ i hm]
      have e : m + n - 1 - i = n + (m - 1 - i) := by omega
      rw [e, Int.pow_add, ← Int.ediv_ediv_of_nonneg (Int.le_of_lt (Int.pow_pos (by decide)))]
      have : (a * 2 ^ n + b) / 2 ^ n = a := by
        rw [Int.add_comm, Int.add_mul_ediv_right _ _ (by have : (0 : Int) < 2 ^ n := Int.pow_pos (by decide); omega), Int.ediv_eq_zero_of_lt h0 h1]
        omega
      rw [this]
    · rw [List.getElem?_append_right (by rw [bitsF_len]; omega), bitsF_len, bitsF_at _ _ (i - m) (by omega)]
      obtain ⟨k, hk⟩ : ∃ k, k = m + n - 1 - i := ⟨_, rfl⟩
      rw [← hk, show n - 1 - (i - m) = k by omega]
      have hkn : n = k + 1 + (n - 1 - k) := by omega
      congr 1
      rw [hkn, Int.pow_add, Int.pow_add, Int.pow_one]
      have hp : (0 : Int) < 2 ^ k := Int.pow_pos (by decide)
      rw [show a * (2 ^ k * 2 * 2 ^ (n - 1 - k)) + b = b + a * 2 ^ (n - 1 - k) * 2 * 2 ^ k by rw [Int.add_comm]; congr 1; simp only [Int.mul_assoc, Int.mul_comm, Int.mul_left_comm], Int.add_mul_ediv_right _ _ (by omega)]
      generalize b / 2 ^ k = q
      omega
  · rw [List.getElem?_eq_none (by rw [List.length_append, bitsF_len, bitsF_len]; omega), List.getElem?_eq_none (by rw [bitsF_len]; omega)]
theorem byte_of (x : Int) : x / 128 % 2 * 128 + x / 64 % 2 * 64 + x / 32 % 2 * 32 + x / 16 % 2 * 16 + x / 8 % 2 * 8 + x / 4 % 2 * 4 + x / 2 % 2 * 2 + x % 2 = x % 256 := by omega
theorem pay_at (v : Int) (n j : Nat) (hj : 8 * j + 8 ≤ n) : (payL (bitsF v n))[j]? = some (v / 2 ^ (n - 8 - 8 * j) % 256) := by
  obtain ⟨k, hk⟩ : ∃ k, k = n - 8 - 8 * j := ⟨_, rfl⟩
  have key : ∀ i, i < 8 → (bitsF v n)[8 * j + i]? = some (v / 2 ^ k / 2 ^ (7 - i) % 2) := by
    intro i hi
    rw [bitsF_at _ _ _ (by omega), show n - 1 - (8 * j + i) = k + (7 - i) by omega, Int.pow_add, ← Int.ediv_ediv_of_nonneg (Int.le_of_lt (Int.pow_pos (by decide)))]
  have := payL_full (bitsF v n) j _ _ _ _ _ _ _ _ (by rw [bitsF_len]; exact hj) (key 0 (by omega)) (key 1 (by omega)) (key 2 (by omega)) (key 3 (by omega)) (key 4 (by omega)) (key 5 (by omega)) (key 6 (by omega)) (key 7 (by omega)) (bitsF_rng v n)
  rw [this, ← hk, ← byte_of (v / 2 ^ k)]
  congr 1
  simp only [Nat.sub_zero, show (7 - 1 : Nat) = 6 from rfl, show (7 - 2 : Nat) = 5 from rfl, show (7 - 3 : Nat) = 4 from rfl, show (7 - 4 : Nat) = 3 from rfl, show (7 - 5 : Nat) = 2 from rfl, show (7 - 6 : Nat) = 1 from rfl, show (7 - 7 : Nat) = 0 from rfl, Int.pow_zero, Int.ediv_one, show (2 : Int) ^ 7 = 128 from rfl, show (2 : Int) ^ 6 = 64 from rfl, show (2 : Int) ^ 5 = 32 from rfl, show (2 : Int) ^ 4 = 16 from rfl, show (2 : Int) ^ 3 = 8 from rfl, show (2 : Int) ^ 2 = 4 from rfl, show (2 : Int) ^ 1 = 2 from rfl]
def clkBits (clk : Int) : List Int := bitsF (clk / 300 / 4294967296) 1 ++ bitsF (clk / 300 % 4294967296) 32 ++ bitsF 63 6 ++ bitsF (clk % 300) 9
theorem clkBits_eq (clk : Int) : clkBits clk = bitsF (clkV clk) 48 := by
  unfold clkBits
  rw [bitsF_app _ _ 1 32 (by omega) (by omega), bitsF_app _ _ _ 6 (by omega) (by omega), bitsF_app _ _ _ 9 (by omega) (by omega)]
  congr 1
  unfold clkV
  omega
theorem clkBits_len (clk : Int) : (clkBits clk).length = 48 := by rw [clkBits_eq, bitsF_len]
theorem clkBits_rng (clk : Int) : ∀ x ∈ clkBits clk, 0 ≤ x ∧ x ≤ 1 := by rw [clkBits_eq]; exact bitsF_rng _ _
theorem clkPay (clk : Int) : (payL (clkBits clk)).take 6 = clkB (clkV clk) := by
  rw [clkBits_eq]
  have hl : (payL (bitsF (clkV clk) 48)).length = 7 := by unfold payL; rw [payS_len, bitsF_len]
  apply List.ext_getElem?
  intro j
  by_cases hj : j < 6
  · rw [List.getElem?_take, if_pos hj, pay_at _ _ _ (by omega)]
    rcases (by omega : j = 0 ∨ j = 1 ∨ j = 2 ∨ j = 3 ∨ j = 4 ∨ j = 5) with rfl | rfl | rfl | rfl | rfl | rfl <;> rfl
  · rw [List.getElem?_eq_none (by rw [List.length_take]; omega), List.getElem?_eq_none (by simp [clkB]; omega)]
def adL (clk : Int) : List Int := if clk < 0 then [0] else 16 :: clkB (clkV clk)

end Go.Proofs.Ytdnchjmopkhnaaa
