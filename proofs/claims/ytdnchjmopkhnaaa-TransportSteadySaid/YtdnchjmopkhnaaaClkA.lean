/- Arrival of both: when a packet arrives. -/
import Derived.Test.YtdnchjmopkhnaaaClkR
import Derived.Test.YtdnchjmopkhnaaaMulDiv
import Derived.Test.YtdnchjmopkhnaaaTrPk
import Derived.Test.YtdnchjmopkhnaaaTrGv
import Derived.Test.YtdnchjmopkhnaaaTrH
namespace Go.Proofs.Ytdnchjmopkhnaaa
open Go.RowKit
attribute [local go_sem ↓] Go.wp_at_zero Go.wp_at_succ

structure I64 (x : Int) : Prop where
  lo : -9223372036854775808 ≤ x
  hi : x ≤ 9223372036854775807

/-- The clock at which packet n arrives, and the error. -/
def arrE (n b : Int) : Int × Int :=
  if 0 ≤ n ∧ 1 ≤ b ∧ b ≤ 1073741824 then (if n * 40608000000 / b ≤ 9223372036854775807 then (n * 40608000000 / b, 0) else (0, 2)) else (0, 1)
theorem arrE_no {n b : Int} (h : ¬ (0 ≤ n ∧ 1 ≤ b ∧ b ≤ 1073741824)) : arrE n b = (0, 1) := if_neg h
theorem mulDiv_nat (n b : Nat) (hb : 0 < b) : (n : Int) * 40608000000 / (b : Int) = ((n * 40608000000 / b : Nat) : Int) := by
  rw [Int.natCast_ediv]; congr 1
theorem arrE_nat (n b : Nat) (h : 1 ≤ b ∧ b ≤ 1073741824) : arrE n b = if n * 40608000000 / b ≤ 9223372036854775807 then (((n * 40608000000 / b : Nat) : Int), 0) else (0, 2) := by
  unfold arrE
  rw [if_pos (by omega), mulDiv_nat n b (by omega)]
  by_cases hq : n * 40608000000 / b ≤ 9223372036854775807
  · rw [if_pos hq, if_pos (by omega)]
  · rw [if_neg hq, if_neg (by omega)]

/-- MulDiv of the program, of numbers that are not negative. -/
theorem rat_MulDivN (x num den : Nat) (w : World) (hx : x ≤ 9223372036854775807) (hn : num ≤ 9223372036854775807) (h0 : 1 ≤ den) (hd : den ≤ 9223372036854775807) :
    Calls Try.prog 48 #[.int .i64 (x : Int), .int .i64 (num : Int), .int .i64 (den : Int)] w fun e w' => e = .returned (mdvV (x * num) den) ∧ Below w.heap.size w w' := by
  have h := rat_MulDiv x num den w (by omega) (by omega) (by omega) (by omega) (by omega) (by omega) (fun h => div64_ok (by simpa using h) (by omega))
  have e : mulDivV ((x : Int) * (num : Int)) den = mdvV (x * num) den := by
    unfold mulDivV mdvV fitsB
    rw [show (x : Int) * (num : Int) = ((x * num : Nat) : Int) by simp, ← Int.natCast_ediv, ← Int.natCast_emod]
    have h0 : (0 : Int) ≤ ((x * num / den : Nat) : Int) := Int.natCast_nonneg _
    by_cases hq : x * num / den ≤ 9223372036854775807
    · rw [if_pos (by simp only [decide_eq_true_eq]; omega), if_pos hq]
    · rw [if_neg (by simp only [decide_eq_true_eq]; omega), if_neg hq]
  rw [e] at h
  exact h

set_option maxHeartbeats 1000000 in
theorem tr_Arrival (n b : Int) (w : World) (hn : I64 n) (hb : I64 b) :
    Calls Try.prog 27 #[.int .i64 n, .int .i64 b] w fun e w' => e = .returned (.tuple #[.int .i64 (arrE n b).1, .int .i64 (arrE n b).2]) ∧ Below w.heap.size w w' := by
  by_cases hok : 0 ≤ n ∧ 1 ≤ b ∧ b ≤ 1073741824
  · obtain ⟨N, rfl⟩ := Int.eq_ofNat_of_zero_le hok.1
    obtain ⟨B, rfl⟩ := Int.eq_ofNat_of_zero_le (show 0 ≤ b by omega)
    have h1 : 1 ≤ B := by omega
    have h2 : B ≤ 1073741824 := by omega
    have hn1 := hn.hi
    rw [arrE_nat N B ⟨h1, h2⟩]
    have cm := fun w => rat_MulDivN N 40608000000 B w (by omega) (by omega) h1 (by omega)
    have t1 : decide ((N : Int) < 0) = false := decide_eq_false (by omega)
    have t2 : decide ((B : Int) < 1) = false := decide_eq_false (by omega)
    have t3 : decide (1073741824 < (B : Int)) = false := decide_eq_false (by omega)
    have CM := Lib.hid cm
    clear cm hok hn hb
    rcases mdvV_two (N * 40608000000) B with ⟨hq, e⟩ | ⟨hq, e⟩
    · rw [if_pos hq]
      rw [e] at CM
      clear e hq
      generalize N * 40608000000 / B = q at *
      generalize N * 40608000000 % B = r at *
      go_enter Try.func27, Try.ntmps27
      go_wp2_with fail
      refine (CM.out _).mono ?_
      rintro e w1 ⟨rfl, hb1⟩
      go_wp2_with fail
      go_ret2
      exact ⟨rfl, hb1⟩
    · rw [if_neg hq]
      rw [e] at CM
      clear e hq
      go_enter Try.func27, Try.ntmps27
      go_wp2_with fail
      refine (CM.out _).mono ?_
      rintro e w1 ⟨rfl, hb1⟩
      go_wp2_with fail
      go_ret2
      exact ⟨rfl, hb1⟩
  · rw [arrE_no hok]
    rcases (by omega : n < 0 ∨ 0 ≤ n ∧ b < 1 ∨ 0 ≤ n ∧ 1 ≤ b ∧ 1073741824 < b) with h | ⟨h, h'⟩ | ⟨h, h', h''⟩
    all_goals
      clear hok
      go_enter Try.func27, Try.ntmps27
      go_wp2_with fail
    all_goals
      go_ret2
      exact ⟨rfl, Below.refl _ _⟩

set_option maxHeartbeats 1000000 in
theorem ref_Arrival (n b : Int) (w : World) (hn : I64 n) (hb : I64 b) :
    Calls Try.prog 28 #[.int .i64 n, .int .i64 b] w fun e w' => e = .returned (.tuple #[.int .i64 (arrE n b).1, .int .i64 (arrE n b).2]) ∧ Below w.heap.size w w' := by
  by_cases hok : 0 ≤ n ∧ 1 ≤ b ∧ b ≤ 1073741824
  · obtain ⟨N, rfl⟩ := Int.eq_ofNat_of_zero_le hok.1
    obtain ⟨B, rfl⟩ := Int.eq_ofNat_of_zero_le (show 0 ≤ b by omega)
    have h1 : 1 ≤ B := by omega
    have h2 : B ≤ 1073741824 := by omega
    have hn1 := hn.hi
    rw [arrE_nat N B ⟨h1, h2⟩]
    have cm := fun w => r01_MulDivN N 40608000000 B w (by omega) (by omega) h1 (by omega)
    have t1 : decide ((N : Int) < 0) = false := decide_eq_false (by omega)
    have t2 : decide ((B : Int) < 1) = false := decide_eq_false (by omega)
    have t3 : decide (1073741824 < (B : Int)) = false := decide_eq_false (by omega)
    have CM := Lib.hid cm
    clear cm hok hn hb
    rcases mdvV_two (N * 40608000000) B with ⟨hq, e⟩ | ⟨hq, e⟩
    · rw [if_pos hq]
      rw [e] at CM
      clear e hq
      generalize N * 40608000000 / B = q at *
      generalize N * 40608000000 % B = r at *
      go_enter Try.func28, Try.ntmps28
      go_wp2_with fail
      refine (CM.out _).mono ?_
      rintro e w1 ⟨rfl, hb1⟩
      go_wp2_with fail
      go_ret2
      exact ⟨rfl, hb1⟩
    · rw [if_neg hq]
      rw [e] at CM
      clear e hq
      go_enter Try.func28, Try.ntmps28
      go_wp2_with fail
      refine (CM.out _).mono ?_
      rintro e w1 ⟨rfl, hb1⟩
      go_wp2_with fail
      go_ret2
      exact ⟨rfl, hb1⟩
  · rw [arrE_no hok]
    rcases (by omega : n < 0 ∨ 0 ≤ n ∧ b < 1 ∨ 0 ≤ n ∧ 1 ≤ b ∧ 1073741824 < b) with h | ⟨h, h'⟩ | ⟨h, h', h''⟩
    all_goals
      clear hok
      go_enter Try.func28, Try.ntmps28
      go_wp2_with fail
    all_goals
      go_ret2
      exact ⟨rfl, Below.refl _ _⟩
end Go.Proofs.Ytdnchjmopkhnaaa
