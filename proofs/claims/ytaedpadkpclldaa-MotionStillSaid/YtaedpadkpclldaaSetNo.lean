/- SetBlock where its arguments do not fit. -/
import Derived.Test.YtaedpadkpclldaaBlkC
import Derived.Test.YtaedpadkpclldaaSetM
namespace Go.Proofs.Ytaedpadkpclldaa
open Go.RowKit


end Go.Proofs.Ytaedpadkpclldaa
