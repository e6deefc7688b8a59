/- Numbers of 64 bits among the arguments. -/
import Derived.Test.YtdnchjmopkhnaaaOpenTrs
import Derived.Test.YtdnchjmopkhnaaaClkA
namespace Go.Proofs.Ytdnchjmopkhnaaa
open Go.RowKit

theorem i64_wf {x : Int} (h : (Lit.int .i64 x).wf = true) : I64 x := ⟨(wf64 h).1, (wf64 h).2⟩
end Go.Proofs.Ytdnchjmopkhnaaa
