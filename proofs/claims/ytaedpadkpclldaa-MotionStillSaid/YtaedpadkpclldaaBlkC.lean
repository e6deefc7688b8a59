/- Block where its arguments do not fit. -/
import Derived.Test.YtaedpadkpclldaaBlkA
import Derived.Test.YtaedpadkpclldaaBn
import Derived.Test.YtaedpadkpclldaaInfo
import Derived.BigFrame
namespace Go.Proofs.Ytaedpadkpclldaa
open Go.RowKit

def zeros64 : List Int := List.replicate 64 0
def RetA (w : World) (r : List Int × Int) (e : Ending) (w' : World) : Prop := e = .returned (.tuple #[.agg (rowN .i64 r.1), .int .i64 r.2]) ∧ Below w.heap.size w w'
def blockOk (f : Fr) (mx my n : Int) : Prop := hasB f mx my = true ∧ 0 ≤ n ∧ n ≤ 5
instance (f : Fr) (mx my n : Int) : Decidable (blockOk f mx my n) := by unfold blockOk; infer_instance

end Go.Proofs.Ytaedpadkpclldaa
namespace Go.Proofs.Ytaedpadkpclldaa
open Go.RowKit

theorem comp_pick {p : Nat → Prop} {w : World} {f : Fr} {ya ua va : Option Addr} {yn yc un uc vn vc : Nat} (n : Nat) (hy : Byt p w ya yn f.Y) (hu : Byt p w ua un f.U) (hv : Byt p w va vn f.V) (h1 : yn ≤ yc) (h2 : un ≤ uc) (h3 : vn ≤ vc) :
    ∃ A m c, compS n (.slice ya yn yc) (.slice ua un uc) (.slice va vn vc) = .slice A m c ∧ m ≤ c ∧ Byt p w A m (compL f n) := by
  unfold compS compL
  by_cases h4 : n = 4
  · rw [if_pos h4, if_pos h4]; exact ⟨_, _, _, rfl, h2, hu⟩
  · rw [if_neg h4, if_neg h4]
    by_cases h5 : n = 5
    · rw [if_pos h5, if_pos h5]; exact ⟨_, _, _, rfl, h3, hv⟩
    · rw [if_neg h5, if_neg h5]; exact ⟨_, _, _, rfl, h1, hy⟩

theorem plane_cut8 {p : Nat → Prop} (A : Option Addr) (n c fr st : Nat) (l : List Int) (w : World) (hl : Byt p w A n l) (hn : n ≤ c) (hfr : fr ≤ 100000) (hst : st ≤ 1000) (hfit : ∀ r, r < 8 → fr + r * st + 8 ≤ n) :
    Calls Try.prog 47 #[.slice A n c, .agg #[.int .i64 fr, .int .i64 st, .int .i64 8, .int .i64 8]] w (RetC w (cutL l fr st 8 8)) :=
  plane_cut A n c fr st 8 8 l w hl hn (by omega) (by omega) (by omega) hfr hst hfit
end Go.Proofs.Ytaedpadkpclldaa
