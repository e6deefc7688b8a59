/- The contracts of copied and clone: a frame of its own. -/
import Derived.Test.YtaedpadkpclldaaCut
namespace Go.Proofs.Ytaedpadkpclldaa
open Go.RowKit

/-- What a call returns that makes a slice of bytes: it begins a block of its own. -/
def RetK (w : World) (l : List Int) (e : Ending) (w' : World) : Prop :=
  ∃ g, e = .returned (.slice (some ⟨g, 0, none⟩) l.length l.length) ∧ w.heap.size ≤ g ∧ Bk w' 5 g l ∧ Below w.heap.size w w'

/-- A frame whose planes begin blocks of their own, from block base on. -/
structure OwnF (base : Nat) (w : World) (v : Value) (f : Fr) (g1 g2 g3 : Nat) : Prop where
  val : v = .agg #[.int .i64 f.W, .int .i64 f.H, .slice (some ⟨g1, 0, none⟩) f.Y.length f.Y.length, .slice (some ⟨g2, 0, none⟩) f.U.length f.U.length, .slice (some ⟨g3, 0, none⟩) f.V.length f.V.length]
  b1 : base ≤ g1
  b2 : base ≤ g2
  b3 : base ≤ g3
  n12 : g1 ≠ g2
  n13 : g1 ≠ g3
  n23 : g2 ≠ g3
  k1 : Bk w 5 g1 f.Y
  k2 : Bk w 5 g2 f.U
  k3 : Bk w 5 g3 f.V
end Go.Proofs.Ytaedpadkpclldaa
