/- The byte type of the program. -/
import Derived.Test.YtaedpadkpclldaaMean
namespace Go.Proofs.Ytaedpadkpclldaa
end Go.Proofs.Ytaedpadkpclldaa
