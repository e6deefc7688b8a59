/- Div64 answers as it should wherever its quotient has 64 bits. -/
import Derived.Test.YtdnchjmopkhnaaaDiv64
import Derived.Test.YtdnchjmopkhnaaaWideD
namespace Go.Proofs.Ytdnchjmopkhnaaa
open Go.RowKit

theorem div64_ok {V den : Nat} (h : V / 18446744073709551616 < den) (h' : den < 18446744073709551616) : Div64Ok V den := by
  rcases Nat.eq_zero_or_pos (V / 18446744073709551616) with h0 | h0
  · exact div64_low (by omega) (by omega) h'
  · intro w
    refine (bits_Div64_high (V / 18446744073709551616) (V % 18446744073709551616) den h0 h h' (by omega) w).mono ?_
    rintro e w' ⟨rfl, rfl⟩
    rw [show V / 18446744073709551616 * 18446744073709551616 + V % 18446744073709551616 = V by omega]
    exact ⟨rfl, 0, rfl⟩
end Go.Proofs.Ytdnchjmopkhnaaa
