/- The contract of cadence.Usable. -/
import Derived.Test.YtclainbjidajbaaRatB
namespace Go.Proofs.Ytclainbjidajbaa
open Go.RowKit

set_option maxHeartbeats 400000 in
theorem cad_Usable (n d : Int) (w : World) (n1 : -9223372036854775808 ≤ n) (n2 : n ≤ 9223372036854775807) (d1 : -9223372036854775808 ≤ d) (d2 : d ≤ 9223372036854775807) :
    Calls Try.prog 42 #[.agg #[.int .i64 n, .int .i64 d]] w fun e w' => e = .returned (.bool (usableR n d)) ∧ Below w.heap.size w w' := by
  have hc := rat_Valid n d (w.alloc (.cells #[.int .i64 n, .int .i64 d] 40)) n1 n2 d1 d2
  have HC := Lib.hid hc
  clear hc
  by_cases hv : validR n d = true
  · go_enter Try.func42, Try.ntmps42
    go_wp2_with fail
    refine HC.out.mono ?_
    rintro e w1 ⟨rfl, hb1⟩
    rw [hv]
    obtain ⟨c_w1, z_w1⟩ := bcell hb1
    have s_w1 := hb1.size
    try simp at s_w1
    try simp at c_w1
    try simp at z_w1
    have q_w1_0 : w.heap.size < w1.heap.size := by omega
    go_wp2_with fail
    all_goals
      go_ret
      refine ⟨ret_bool ?_, ((Below.refl _ w).alloc (Nat.le_refl _) _).trans (hb1.mono (by simp))⟩
      rw [usableR_valid, hv]
      first | rfl | (simp; omega) | (rw [Bool.eq_iff_iff]; simp; omega)
  · have hv' : validR n d = false := by simpa using hv
    go_enter Try.func42, Try.ntmps42
    go_wp2_with fail
    refine HC.out.mono ?_
    rintro e w1 ⟨rfl, hb1⟩
    rw [hv']
    go_wp2_with fail
    go_ret
    refine ⟨ret_bool ?_, ((Below.refl _ w).alloc (Nat.le_refl _) _).trans (hb1.mono (by simp))⟩
    rw [usableR_valid, hv']
    rfl
end Go.Proofs.Ytclainbjidajbaa
