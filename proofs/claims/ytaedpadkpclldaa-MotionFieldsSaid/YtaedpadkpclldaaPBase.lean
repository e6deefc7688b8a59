/- Frames of new memory: shared words. -/
import Derived.Test.YtaedpadkpclldaaRange
import Derived.Test.YtaedpadkpclldaaAwake
import Derived.Test.YtaedpadkpclldaaValid
import Derived.Test.YtaedpadkpclldaaCopyW
namespace Go.Proofs.Ytaedpadkpclldaa
open Go.RowKit

/-- The zero frame and an error number. -/
theorem retFr_zero {e : Ending} {w w' : World} {B : Nat} (hB : Below w.heap.size w w') (he : e = .returned (.tuple #[.agg #[.int .i64 0, .int .i64 0, .slice none 0 0, .slice none 0 0, .slice none 0 0], .int .i64 B])) : RetFr w (zeroFr, (B : Int)) e w' :=
  ⟨_, he, ⟨_, _, _, _, _, _, _, _, _, rfl, Byt.nil, Byt.nil, Byt.nil⟩, hB⟩
end Go.Proofs.Ytaedpadkpclldaa
