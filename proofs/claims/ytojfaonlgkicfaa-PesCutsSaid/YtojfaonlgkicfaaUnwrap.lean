/- The contracts of Unwrap, the program's and the reference's. -/
import Derived.Test.YtojfaonlgkicfaaSame
namespace Go.Proofs.Ytojfaonlgkicfaa
open Go.RowKit

theorem i64_and_wrap (x : Int) : bits .and .i64 x 8589934591 = x % 8589934592 := by
  show IntKind.i64.wrap ((BitVec.ofInt 64 x &&& BitVec.ofInt 64 8589934591).toNat : Int) = _
  have h1 : (BitVec.ofInt 64 x &&& BitVec.ofInt 64 8589934591).toNat = (x % 8589934592).toNat := by
    rw [BitVec.toNat_and, show (BitVec.ofInt 64 8589934591).toNat = 2 ^ 33 - 1 from rfl, Nat.and_two_pow_sub_one_eq_mod, BitVec.toNat_ofInt]
    omega
  rw [h1, IntKind.wrap_i64]
  omega

theorem ret_i64 {a b : Int} (h : a = b) : Ending.returned (.int .i64 a) = .returned (.int .i64 b) := by rw [h]
theorem tmod_cases (x n : Int) : 0 ≤ x ∧ x.tmod n = x % n ∨ x < 0 ∧ x.tmod n = -((-x) % n) := by
  rcases (show 0 ≤ x ∨ x < 0 by omega) with h | h
  · exact .inl ⟨h, Int.tmod_eq_emod_of_nonneg h⟩
  · refine .inr ⟨h, ?_⟩
    rw [← Int.tmod_eq_emod_of_nonneg (by omega), Int.neg_tmod, Int.neg_neg]
def unwrapZ (a s : Int) : Int := if a < -4611686018427387904 ∨ a > 4611686018427387904 ∨ s < 0 ∨ s ≥ 8589934592 then 0 else a + 4294967296 - (a + 4294967296 - s) % 8589934592

theorem pes_modulo (x : Int) (w : World) :
    Calls Try.prog 28 #[.int .i64 x] w fun e w' => e = .returned (.int .i64 (x % 8589934592)) ∧ w = w' := by
  have := i64_and_wrap x
  go_enter Try.func28, Try.ntmps28
  go_wp2
  go_ret
  exact ⟨by first | rfl | simp_all, rfl⟩

theorem pes_Unwrap (a s : Int) (w : World) :
    Calls Try.prog 11 #[.int .i64 a, .int .i64 s] w fun e w' => e = .returned (.int .i64 (unwrapZ a s)) ∧ w = w' := by
  unfold unwrapZ
  go_enter Try.func11, Try.ntmps11
  go_wp2_with (first | (go_at_call 28; ((with_reducible refine (pes_modulo _ _).mono ?_); rintro e w1 ⟨rfl, rfl⟩)))
  all_goals
    go_ret
    refine ⟨ret_i64 ?_, rfl⟩
    first
    | rfl
    | (rcases tmod_cases (a + 4294967296 - s) 8589934592 with ⟨h0, hm⟩ | ⟨h0, hm⟩ <;> simp only [wrap64] <;> omega)

theorem ref_Unwrap (a s : Int) (w : World) :
    Calls Try.prog 12 #[.int .i64 a, .int .i64 s] w fun e w' => e = .returned (.int .i64 (unwrapZ a s)) ∧ w = w' := by
  unfold unwrapZ
  go_enter Try.func12, Try.ntmps12
  go_wp2
  all_goals
    go_ret
    refine ⟨ret_i64 ?_, rfl⟩
    first
    | rfl
    | (rcases tmod_cases (a + 4294967296 - s) 8589934592 with ⟨h0, hm⟩ | ⟨h0, hm⟩ <;> simp only [wrap64] <;> omega)

end Go.Proofs.Ytojfaonlgkicfaa
