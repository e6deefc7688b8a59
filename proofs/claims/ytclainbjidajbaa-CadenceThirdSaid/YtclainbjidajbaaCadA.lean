/- The contracts of Usable, Sample, Owner: the program's and the reference's. -/
import Derived.Test.YtclainbjidajbaaPos
import Derived.Test.YtclainbjidajbaaSplit
import Derived.Test.YtclainbjidajbaaCadU
import Derived.Test.YtclainbjidajbaaMulDiv
namespace Go.Proofs.Ytclainbjidajbaa
open Go.RowKit

structure I64 (x : Int) : Prop where
  lo : -9223372036854775808 ≤ x
  hi : x ≤ 9223372036854775807

def UsbRel (n d : Int) (w : World) (a b : Value) (wr : World) : Prop :=
  ∃ (i j m : Nat), i < 9223372036854775808 ∧ j < 9223372036854775808 ∧ Nat.gcd i j = Nat.gcd n.natAbs d.natAbs ∧ a = .int .i64 i ∧ b = .int .i64 j ∧ Below w.heap.size w wr ∧ wr = wr


def rangeB (n : Int) : Bool := decide (-2147483647 ≤ n ∧ n ≤ 2147483647)
theorem cad_inRange (n : Int) (w : World) :
    Calls Try.prog 43 #[.int .i64 n] w fun e w' => e = .returned (.bool (rangeB n)) ∧ w = w' := by
  go_enter Try.func43, Try.ntmps43
  go_wp2
  all_goals
    go_ret
    exact ⟨ret_bool (by unfold rangeB; first | (simp; omega) | (rw [Bool.eq_iff_iff]; simp; omega)), rfl⟩
end Go.Proofs.Ytclainbjidajbaa
