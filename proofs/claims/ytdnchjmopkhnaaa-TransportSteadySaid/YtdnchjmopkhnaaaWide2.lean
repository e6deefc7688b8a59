/- plus, where the signs differ and the first number is less. -/
import Derived.Test.YtdnchjmopkhnaaaWide
namespace Go.Proofs.Ytdnchjmopkhnaaa
open Go.RowKit


theorem wide_small (n : Nat) (h : n < 18446744073709551616) : wideV (n : Int) = .agg #[.bool false, .int .u64 0, .int .u64 (n : Int)] := by
  unfold wideV
  rw [show decide ((n : Int) < 0) = false by simp, Int.natAbs_natCast, Nat.div_eq_of_lt h, Nat.mod_eq_of_lt h]
  rfl

theorem wide_eq {a : Int} {b : Bool} {H L : Nat} (hb : decide (a < 0) = b) (hH : a.natAbs / 18446744073709551616 = H) (hL : a.natAbs % 18446744073709551616 = L) :
    (.agg #[.bool b, .int .u64 (H : Int), .int .u64 (L : Int)] : Value) = wideV a := by unfold wideV; rw [hb, hH, hL]

end Go.Proofs.Ytdnchjmopkhnaaa
