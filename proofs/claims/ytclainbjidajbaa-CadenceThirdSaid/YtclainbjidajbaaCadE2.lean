/- The contract of Fields of the reference. -/
import Derived.Test.YtclainbjidajbaaCadE
namespace Go.Proofs.Ytclainbjidajbaa
open Go.RowKit
end Go.Proofs.Ytclainbjidajbaa
