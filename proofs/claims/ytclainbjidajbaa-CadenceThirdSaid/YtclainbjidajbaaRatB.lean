/- The contracts of Valid, Usable, scale. -/
import Derived.Test.YtclainbjidajbaaRatA
namespace Go.Proofs.Ytclainbjidajbaa
open Go.RowKit

theorem wrap_u64_nat {d : Int} (h0 : 0 ≤ d) (h : d < 18446744073709551616) : IntKind.u64.wrap d = (d.natAbs : Int) := by rw [IntKind.wrap_u64]; omega

set_option maxHeartbeats 400000 in
theorem rat_Valid (n d : Int) (w : World) (n1 : -9223372036854775808 ≤ n) (n2 : n ≤ 9223372036854775807) (d1 : -9223372036854775808 ≤ d) (d2 : d ≤ 9223372036854775807) :
    Calls Try.prog 48 #[.agg #[.int .i64 n, .int .i64 d]] w fun e w' => e = .returned (.bool (validR n d)) ∧ Below w.heap.size w w' := by
  by_cases h1 : 1 ≤ d
  · by_cases h2 : -9223372036854775808 < n
    · have g1 : decide (1 ≤ d) = true := by simpa using h1
      have g2 : decide (-9223372036854775808 < n) = true := by simpa using h2
      have e1 := wrap_u64_nat (d := d) (by omega) (by omega)
      have b1 : n.natAbs < 18446744073709551616 := by omega
      have b2 : d.natAbs < 18446744073709551616 := by omega
      go_enter Try.func48, Try.ntmps48
      go_wp2
      go_quiet (first | (go_at_call 55; exact Calls.quiet_of_same (rat_magnitude' _ _ (by omega) (by omega))) | (go_at_call 54; exact Calls.quiet_of (rat_gcd _ _ _ b1 b2)))
      go_wp2
      go_ret
      refine ⟨ret_bool ?_, ?_⟩
      · rw [Bool.eq_iff_iff]; simp [validR, h1, h2]; omega
      · exact ((Below.refl _ w).alloc (Nat.le_refl _) _).trans ⟨rfl, rfl, rfl, Nat.le_refl _, fun _ _ => rfl⟩
    · have g1 : decide (1 ≤ d) = true := by simpa using h1
      have g2 : decide (-9223372036854775808 < n) = false := by simpa using h2
      go_enter Try.func48, Try.ntmps48
      go_wp2
      go_quiet (fail)
      go_wp2
      go_ret
      refine ⟨ret_bool ?_, ?_⟩
      · simp only [validR]; simp; omega
      · exact ((Below.refl _ w).alloc (Nat.le_refl _) _).trans ⟨rfl, rfl, rfl, Nat.le_refl _, fun _ _ => rfl⟩
  · have g1 : decide (1 ≤ d) = false := by simpa using h1
    go_enter Try.func48, Try.ntmps48
    go_wp2
    go_quiet (fail)
    go_wp2
    go_ret
    refine ⟨ret_bool ?_, ?_⟩
    · simp only [validR]; simp; omega
    · exact ((Below.refl _ w).alloc (Nat.le_refl _) _).trans ⟨rfl, rfl, rfl, Nat.le_refl _, fun _ _ => rfl⟩

set_option maxHeartbeats 400000 in
theorem rat_scale (n d : Int) (w : World) (n1 : -9223372036854775808 ≤ n) (n2 : n ≤ 9223372036854775807) (d1 : -9223372036854775808 ≤ d) (d2 : d ≤ 9223372036854775807) :
    Calls Try.prog 51 #[.agg #[.int .i64 n, .int .i64 d]] w fun e w' => e = .returned (.bool (scaleR n d)) ∧ Below w.heap.size w w' := by
  have hc := rat_Valid n d (w.alloc (.cells #[.int .i64 n, .int .i64 d] 40)) n1 n2 d1 d2
  have HC := Lib.hid hc
  clear hc
  by_cases hv : validR n d = true
  · go_enter Try.func51, Try.ntmps51
    go_wp2_with fail
    refine HC.out.mono ?_
    rintro e w1 ⟨rfl, hb1⟩
    rw [hv]
    obtain ⟨c_w1, z_w1⟩ := bcell hb1
    have s_w1 := hb1.size
    try simp at s_w1
    try simp at c_w1
    try simp at z_w1
    have q_w1_0 : w.heap.size < w1.heap.size := by omega
    go_wp2_with fail
    all_goals
      go_ret
      refine ⟨ret_bool ?_, ((Below.refl _ w).alloc (Nat.le_refl _) _).trans (hb1.mono (by simp))⟩
      rw [scaleR_valid, hv]
      first | rfl | (simp; omega) | (rw [Bool.eq_iff_iff]; simp; omega)
  · have hv' : validR n d = false := by simpa using hv
    go_enter Try.func51, Try.ntmps51
    go_wp2_with fail
    refine HC.out.mono ?_
    rintro e w1 ⟨rfl, hb1⟩
    rw [hv']
    go_wp2_with fail
    go_ret
    refine ⟨ret_bool ?_, ((Below.refl _ w).alloc (Nat.le_refl _) _).trans (hb1.mono (by simp))⟩
    rw [scaleR_valid, hv']
    rfl
end Go.Proofs.Ytclainbjidajbaa
