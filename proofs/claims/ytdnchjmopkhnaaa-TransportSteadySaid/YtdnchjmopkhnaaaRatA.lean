/- The contracts of magnitude, gcd, Valid. -/
import Derived.Test.YtdnchjmopkhnaaaProg
import Derived.Test.YtdnchjmopkhnaaaWords2
import Derived.Test.YtdnchjmopkhnaaaRatM
namespace Go.Proofs.Ytdnchjmopkhnaaa
open Go.RowKit

theorem ret_u64 {a b : Int} (h : a = b) : Ending.returned (.int .u64 a) = .returned (.int .u64 b) := by rw [h]
theorem ret_i64 {a b : Int} (h : a = b) : Ending.returned (.int .i64 a) = .returned (.int .i64 b) := by rw [h]
theorem ret_bool {a b : Bool} (h : a = b) : Ending.returned (.bool a) = .returned (.bool b) := by rw [h]

theorem rat_magnitude' (x : Int) (w : World) (h1 : -9223372036854775808 ≤ x) (h2 : x ≤ 9223372036854775807) :
    Calls Try.prog 64 #[.int .i64 x] w fun e w' => e = .returned (.int .u64 (x.natAbs : Int)) ∧ w' = w := by
  go_enter Try.func64, Try.ntmps64
  go_wp2
  all_goals
    go_ret
    refine ⟨ret_u64 ?_, rfl⟩
    (try simp only [IntKind.wrap_u64])
    omega
theorem rat_magnitude (x : Int) (w : World) (h1 : -9223372036854775808 ≤ x) (h2 : x ≤ 9223372036854775807) :
    Calls Try.prog 64 #[.int .i64 x] w fun e w' => e = .returned (.int .u64 (x.natAbs : Int)) ∧ w = w' :=
  (rat_magnitude' x w h1 h2).mono fun _ _ ⟨h, h'⟩ => ⟨h, h'.symm⟩

def GcdRel (x y : Nat) (w : World) (a b : Value) (wr : World) : Prop :=
  ∃ i j m : Nat, i < 18446744073709551616 ∧ j < 18446744073709551616 ∧ Nat.gcd i j = Nat.gcd x y ∧ a = .int .u64 i ∧ b = .int .u64 j ∧ wr = w.drewN m

end Go.Proofs.Ytdnchjmopkhnaaa
