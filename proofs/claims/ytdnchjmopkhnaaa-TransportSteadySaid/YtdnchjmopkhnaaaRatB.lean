/- The contracts of Valid, Usable, scale. -/
import Derived.Test.YtdnchjmopkhnaaaRatA
namespace Go.Proofs.Ytdnchjmopkhnaaa
open Go.RowKit

theorem wrap_u64_nat {d : Int} (h0 : 0 ≤ d) (h : d < 18446744073709551616) : IntKind.u64.wrap d = (d.natAbs : Int) := by rw [IntKind.wrap_u64]; omega


end Go.Proofs.Ytdnchjmopkhnaaa
