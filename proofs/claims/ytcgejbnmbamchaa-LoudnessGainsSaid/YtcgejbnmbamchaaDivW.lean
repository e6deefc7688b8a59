/- The contract of math/bits.Div64 where the high half is 0 (for seats without rational.product). -/
import Derived.Test.YtcgejbnmbamchaaMul64
namespace Go.Proofs.Ytcgejbnmbamchaa
open Go.RowKit

theorem or_nz (a b : Nat) (ha : a < 18446744073709551616) (hb : b < 18446744073709551616) : (bits .or .u64 (a : Int) (b : Int) != 0) = decide (¬ (a = 0 ∧ b = 0)) := by
  rw [bits_or_u64_nat a b ha hb, Bool.eq_iff_iff]
  simp only [bne_iff_ne, ne_eq, decide_eq_true_eq]
  rw [show (((a ||| b : Nat) : Int) = 0 ↔ a = 0 ∧ b = 0) by rw [← Nat.or_eq_zero_iff]; omega]

theorem ret2_u64 {k k' : IntKind} {a b c d : Int} (h : a = c) (h' : b = d) : Ending.returned (.tuple #[.int k a, .int k' b]) = .returned (.tuple #[.int k c, .int k' d]) := by rw [h, h']

set_option maxHeartbeats 400000 in
/-- Div64 where the high half is 0. -/
theorem bits_Div64_low (lo y : Nat) (hlo : lo < 18446744073709551616) (hy : y < 18446744073709551616) (h : 0 < y) (w : World) :
    Calls Try.prog 62 #[.int .u64 0, .int .u64 lo, .int .u64 y] w fun e w' => e = .returned (.tuple #[.int .u64 ((lo / y : Nat) : Int), .int .u64 ((lo % y : Nat) : Int)]) ∧ ∃ m, w' = w.drewN m := by
  have h1 : ((y : Int) == 0) = false := by simp; omega
  have h2 : ¬ (y : Int) = 0 := by omega
  have h3 : ¬ (y : Int) ≤ 0 := by omega
  go_enter Try.func62, Try.ntmps62
  go_wp2_with fail
  go_quiet (fail)
  go_wp2_with fail
  go_ret2
  refine ⟨ret2_u64 ?_ (Int.natCast_emod lo y).symm, _, rfl⟩
  rw [IntKind.wrap_u64, ← Int.natCast_ediv]
  have := Nat.div_le_self lo y
  generalize lo / y = q at this ⊢
  omega
end Go.Proofs.Ytcgejbnmbamchaa
