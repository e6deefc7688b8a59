/- The byte type of the program. -/
import Derived.Test.YtcboppldclknjaaProg
import Derived.Test.YtcboppldclknjaaWords
namespace Go.Proofs.Ytcboppldclknjaa
theorem Try.infoB : (Try.prog.info? 5).map (fun i => (i.zero, i.size, i.bytes)) = some (some (.int .u8 0), 1, 1) := by kernel_rfl
end Go.Proofs.Ytcboppldclknjaa
