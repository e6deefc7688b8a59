/- The contract of Block of the reference. -/
import Derived.Test.YtaedpadkpclldaaBlkC
namespace Go.Proofs.Ytaedpadkpclldaa
open Go.RowKit



def blockF (f : Fr) (mx my n : Int) (fd : Bool) : List Int × Int := if blockOk f mx my n then (blockL f mx.toNat my.toNat n.toNat fd, 0) else (zeros64, 1)
theorem blockF_len (f : Fr) (mx my n : Int) (fd : Bool) : (blockF f mx my n fd).1.length = 64 := by
  unfold blockF
  split
  · exact blockL_len _ _ _ _ _
  · rfl


end Go.Proofs.Ytaedpadkpclldaa
