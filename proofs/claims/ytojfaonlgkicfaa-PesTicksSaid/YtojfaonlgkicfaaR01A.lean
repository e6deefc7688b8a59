/- The contracts of the reference of package rational: mag, gcd, Valid, scale. -/
import Derived.Test.YtojfaonlgkicfaaDivAll
namespace Go.Proofs.Ytojfaonlgkicfaa
open Go.RowKit

theorem r01_mag' (x : Int) (w : World) (h1 : -9223372036854775808 ≤ x) (h2 : x ≤ 9223372036854775807) :
    Calls Try.prog 44 #[.int .i64 x] w fun e w' => e = .returned (.int .u64 (x.natAbs : Int)) ∧ w' = w := by
  go_enter Try.func44, Try.ntmps44
  go_wp2
  all_goals
    go_ret
    refine ⟨ret_u64 ?_, rfl⟩
    (try simp only [IntKind.wrap_u64])
    omega
theorem r01_mag (x : Int) (w : World) (h1 : -9223372036854775808 ≤ x) (h2 : x ≤ 9223372036854775807) :
    Calls Try.prog 44 #[.int .i64 x] w fun e w' => e = .returned (.int .u64 (x.natAbs : Int)) ∧ w = w' :=
  (r01_mag' x w h1 h2).mono fun _ _ ⟨h, h'⟩ => ⟨h, h'.symm⟩

set_option maxHeartbeats 400000 in
theorem r01_gcd (x y : Nat) (w : World) (hx : x < 18446744073709551616) (hy : y < 18446744073709551616) :
    Calls Try.prog 43 #[.int .u64 x, .int .u64 y] w fun e w' => e = .returned (.int .u64 (Nat.gcd x y : Nat)) ∧ ∃ m, w' = w.drewN m := by
  go_enter Try.func43, Try.ntmps43
  go_wp2
  go_loopw [0, 1] (fun a b wr => GcdRel x y w a b wr) (fun _ b _ => (intOf b).toNat)
  case atStart => exact ⟨x, y, 0, hx, hy, rfl, rfl, rfl, rfl⟩
  case round =>
    obtain ⟨i, j, m, hi, hj, hg, rfl, rfl, rfl⟩ := hrel
    have HG := Lib.hid hg
    clear hg
    by_cases hz : j = 0
    · subst hz
      go_wp2
      go_ret
      refine ⟨ret_u64 ?_, m, rfl⟩
      rw [← HG.out, Nat.gcd_zero_right]
    · have hz1 : ((j : Int) != 0) = true := by simp; exact hz
      have hz2 : ((j : Int) == 0) = false := by simp; exact hz
      go_wp2
      go_quiet (fail)
      go_wp2
      go_roundw
      case rel => exact ⟨j, i % j, _, by omega, by have := Nat.mod_lt i (by omega : j > 0); omega, by rw [← HG.out, Nat.gcd_comm i j, Nat.gcd_rec j i, Nat.gcd_comm], rfl, by simp, World.drewN_drewN _ _ _⟩
      case measure => simp [intOf]; have := Nat.mod_lt i (by omega : j > 0); omega

set_option maxHeartbeats 400000 in
theorem r01_Valid (n d : Int) (w : World) (n1 : -9223372036854775808 ≤ n) (n2 : n ≤ 9223372036854775807) (d1 : -9223372036854775808 ≤ d) (d2 : d ≤ 9223372036854775807) :
    Calls Try.prog 26 #[.agg #[.int .i64 n, .int .i64 d]] w fun e w' => e = .returned (.bool (validR n d)) ∧ Below w.heap.size w w' := by
  by_cases h1 : 1 ≤ d
  · by_cases h2 : -9223372036854775808 < n
    · have g1 : decide (1 ≤ d) = true := by simpa using h1
      have g2 : decide (-9223372036854775807 ≤ n) = true := by simp; omega
      have e1 := wrap_u64_nat (d := d) (by omega) (by omega)
      have b1 : n.natAbs < 18446744073709551616 := by omega
      have b2 : d.natAbs < 18446744073709551616 := by omega
      go_enter Try.func26, Try.ntmps26
      go_wp2
      go_quiet (first | (go_at_call 44; exact Calls.quiet_of_same (r01_mag' _ _ (by omega) (by omega))) | (go_at_call 43; exact Calls.quiet_of (r01_gcd _ _ _ b1 b2)))
      go_wp2
      go_ret
      refine ⟨ret_bool ?_, ?_⟩
      · rw [Bool.eq_iff_iff]; simp [validR, h1, h2]; omega
      · exact ((Below.refl _ w).alloc (Nat.le_refl _) _).trans ⟨rfl, rfl, rfl, Nat.le_refl _, fun _ _ => rfl⟩
    · have g1 : decide (1 ≤ d) = true := by simpa using h1
      have g2 : decide (-9223372036854775807 ≤ n) = false := by simp; omega
      go_enter Try.func26, Try.ntmps26
      go_wp2
      go_quiet (fail)
      go_wp2
      go_ret
      refine ⟨ret_bool ?_, ?_⟩
      · simp only [validR]; simp; omega
      · exact ((Below.refl _ w).alloc (Nat.le_refl _) _).trans ⟨rfl, rfl, rfl, Nat.le_refl _, fun _ _ => rfl⟩
  · have g1 : decide (1 ≤ d) = false := by simpa using h1
    go_enter Try.func26, Try.ntmps26
    go_wp2
    go_quiet (fail)
    go_wp2
    go_ret
    refine ⟨ret_bool ?_, ?_⟩
    · simp only [validR]; simp; omega
    · exact ((Below.refl _ w).alloc (Nat.le_refl _) _).trans ⟨rfl, rfl, rfl, Nat.le_refl _, fun _ _ => rfl⟩

set_option maxHeartbeats 400000 in
theorem r01_scale (n d : Int) (w : World) (n1 : -9223372036854775808 ≤ n) (n2 : n ≤ 9223372036854775807) (d1 : -9223372036854775808 ≤ d) (d2 : d ≤ 9223372036854775807) :
    Calls Try.prog 45 #[.agg #[.int .i64 n, .int .i64 d]] w fun e w' => e = .returned (.bool (scaleR n d)) ∧ Below w.heap.size w w' := by
  have hc := r01_Valid n d (w.alloc (.cells #[.int .i64 n, .int .i64 d] 55)) n1 n2 d1 d2
  have HC := Lib.hid hc
  clear hc
  by_cases hv : validR n d = true
  · go_enter Try.func45, Try.ntmps45
    go_wp2_with fail
    refine HC.out.mono ?_
    rintro e w1 ⟨rfl, hb1⟩
    rw [hv]
    obtain ⟨c_w1, z_w1⟩ := bcell hb1
    have s_w1 := hb1.size
    try simp at s_w1
    try simp at c_w1
    try simp at z_w1
    have q_w1_0 : w.heap.size < w1.heap.size := by omega
    go_wp2_with fail
    all_goals
      go_ret
      refine ⟨ret_bool ?_, ((Below.refl _ w).alloc (Nat.le_refl _) _).trans (hb1.mono (by simp))⟩
      rw [scaleR_valid, hv]
      first | rfl | (simp; omega) | (rw [Bool.eq_iff_iff]; simp; omega)
  · have hv' : validR n d = false := by simpa using hv
    go_enter Try.func45, Try.ntmps45
    go_wp2_with fail
    refine HC.out.mono ?_
    rintro e w1 ⟨rfl, hb1⟩
    rw [hv']
    go_wp2_with fail
    go_ret
    refine ⟨ret_bool ?_, ((Below.refl _ w).alloc (Nat.le_refl _) _).trans (hb1.mono (by simp))⟩
    rw [scaleR_valid, hv']
    rfl
end Go.Proofs.Ytojfaonlgkicfaa
