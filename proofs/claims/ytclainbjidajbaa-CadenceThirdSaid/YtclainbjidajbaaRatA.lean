/- The contracts of magnitude, gcd, Valid. -/
import Derived.Test.YtclainbjidajbaaProg
import Derived.Test.YtclainbjidajbaaWords2
import Derived.Test.YtclainbjidajbaaRatM
namespace Go.Proofs.Ytclainbjidajbaa
open Go.RowKit

theorem ret_u64 {a b : Int} (h : a = b) : Ending.returned (.int .u64 a) = .returned (.int .u64 b) := by rw [h]
theorem ret_i64 {a b : Int} (h : a = b) : Ending.returned (.int .i64 a) = .returned (.int .i64 b) := by rw [h]
theorem ret_bool {a b : Bool} (h : a = b) : Ending.returned (.bool a) = .returned (.bool b) := by rw [h]

theorem rat_magnitude' (x : Int) (w : World) (h1 : -9223372036854775808 ≤ x) (h2 : x ≤ 9223372036854775807) :
    Calls Try.prog 55 #[.int .i64 x] w fun e w' => e = .returned (.int .u64 (x.natAbs : Int)) ∧ w' = w := by
  go_enter Try.func55, Try.ntmps55
  go_wp2
  all_goals
    go_ret
    refine ⟨ret_u64 ?_, rfl⟩
    (try simp only [IntKind.wrap_u64])
    omega
theorem rat_magnitude (x : Int) (w : World) (h1 : -9223372036854775808 ≤ x) (h2 : x ≤ 9223372036854775807) :
    Calls Try.prog 55 #[.int .i64 x] w fun e w' => e = .returned (.int .u64 (x.natAbs : Int)) ∧ w = w' :=
  (rat_magnitude' x w h1 h2).mono fun _ _ ⟨h, h'⟩ => ⟨h, h'.symm⟩

def GcdRel (x y : Nat) (w : World) (a b : Value) (wr : World) : Prop :=
  ∃ i j m : Nat, i < 18446744073709551616 ∧ j < 18446744073709551616 ∧ Nat.gcd i j = Nat.gcd x y ∧ a = .int .u64 i ∧ b = .int .u64 j ∧ wr = w.drewN m

set_option maxHeartbeats 400000 in
theorem rat_gcd (x y : Nat) (w : World) (hx : x < 18446744073709551616) (hy : y < 18446744073709551616) :
    Calls Try.prog 54 #[.int .u64 x, .int .u64 y] w fun e w' => e = .returned (.int .u64 (Nat.gcd x y : Nat)) ∧ ∃ m, w' = w.drewN m := by
  go_enter Try.func54, Try.ntmps54
  go_wp2
  go_loopw [0, 1] (fun a b wr => GcdRel x y w a b wr) (fun _ b _ => (intOf b).toNat)
  case atStart => exact ⟨x, y, 0, hx, hy, rfl, rfl, rfl, rfl⟩
  case round =>
    obtain ⟨i, j, m, hi, hj, hg, rfl, rfl, rfl⟩ := hrel
    have HG := Lib.hid hg
    clear hg
    by_cases hz : j = 0
    · subst hz
      go_wp2
      go_ret
      refine ⟨ret_u64 ?_, m, rfl⟩
      rw [← HG.out, Nat.gcd_zero_right]
    · have hz1 : ((j : Int) != 0) = true := by simp; exact hz
      have hz2 : ((j : Int) == 0) = false := by simp; exact hz
      go_wp2
      go_quiet (fail)
      go_wp2
      go_roundw
      case rel => exact ⟨j, i % j, _, by omega, by have := Nat.mod_lt i (by omega : j > 0); omega, by rw [← HG.out, Nat.gcd_comm i j, Nat.gcd_rec j i, Nat.gcd_comm], rfl, by simp, World.drewN_drewN _ _ _⟩
      case measure => simp [intOf]; have := Nat.mod_lt i (by omega : j > 0); omega
end Go.Proofs.Ytclainbjidajbaa
