/- The reference's taken: a timestamp without looking at prefix and marks. -/
import Derived.Test.YtojfaonlgkicfaaTakePut
namespace Go.Proofs.Ytojfaonlgkicfaa
open Go.RowKit

theorem tsV_rng {b0 b1 b2 b3 b4 : Int} (h0 : 0 ≤ b0 ∧ b0 ≤ 255) (h1 : 0 ≤ b1 ∧ b1 ≤ 255) (h2 : 0 ≤ b2 ∧ b2 ≤ 255) (h3 : 0 ≤ b3 ∧ b3 ≤ 255) (h4 : 0 ≤ b4 ∧ b4 ≤ 255) : 0 ≤ tsV b0 b1 b2 b3 b4 ∧ tsV b0 b1 b2 b3 b4 < 8589934592 := by
  unfold tsV
  omega
set_option maxRecDepth 100000 in
set_option maxHeartbeats 2000000 in
theorem ref_taken {b off n c : Nat} (x0 x1 x2 x3 x4 : Int) (w : World) (hn : 5 ≤ n) (c0 : w.cell? ⟨b, off, none⟩ = some (.int .u8 x0)) (c1 : w.cell? ⟨b, off + 1, none⟩ = some (.int .u8 x1)) (c2 : w.cell? ⟨b, off + 2, none⟩ = some (.int .u8 x2)) (c3 : w.cell? ⟨b, off + 3, none⟩ = some (.int .u8 x3)) (c4 : w.cell? ⟨b, off + 4, none⟩ = some (.int .u8 x4))
    (h0 : 0 ≤ x0 ∧ x0 ≤ 255) (h1 : 0 ≤ x1 ∧ x1 ≤ 255) (h2 : 0 ≤ x2 ∧ x2 ≤ 255) (h3 : 0 ≤ x3 ∧ x3 ≤ 255) (h4 : 0 ≤ x4 ∧ x4 ≤ 255) :
    Calls Try.prog 41 #[.slice (some ⟨b, off, none⟩) n c] w fun e w' => e = .returned (.int .i64 (tsV x0 x1 x2 x3 x4)) ∧ ∃ m, w' = w.drewN m := by
  have a7 : bits .and .u8 (x0 / 2) 7 = x0 / 2 % 8 := by rw [u8_and _ 7 (by omega) (by omega) (by omega) (by omega)]; simp [nat_mask3]; omega
  obtain ⟨hi, e_hi⟩ : ∃ x, x = x0 / 2 % 8 := ⟨_, rfl⟩
  obtain ⟨m2, e_m2⟩ : ∃ x, x = x2 / 2 := ⟨_, rfl⟩
  obtain ⟨m4, e_m4⟩ : ∃ x, x = x4 / 2 := ⟨_, rfl⟩
  have b1 : 0 ≤ hi ∧ hi ≤ 7 := by omega
  have b2 : 0 ≤ m2 ∧ m2 ≤ 127 := by omega
  have b4 : 0 ≤ m4 ∧ m4 ≤ 127 := by omega
  have HV := Lib.hid (show tsV x0 x1 x2 x3 x4 = hi * 1073741824 + x1 * 4194304 + m2 * 32768 + x3 * 128 + m4 by unfold tsV; rw [← e_hi, ← e_m2, ← e_m4])
  rw [← e_hi] at a7
  have E2 : x2 / 2 = m2 := e_m2.symm
  have E4 : x4 / 2 = m4 := e_m4.symm
  have o1 : bits .or .i64 (hi * 1073741824) (x1 * 4194304) = hi * 1073741824 + x1 * 4194304 := i64_or_low 30 hi _ 1073741824 rfl (by omega) (by omega) (by omega) (by omega)
  have o2 : bits .or .i64 (hi * 1073741824 + x1 * 4194304) (m2 * 32768) = hi * 1073741824 + x1 * 4194304 + m2 * 32768 := by
    have := i64_or_low 22 (hi * 256 + x1) (m2 * 32768) 4194304 rfl (by omega) (by omega) (by omega) (by omega)
    rwa [show (hi * 256 + x1) * 4194304 = hi * 1073741824 + x1 * 4194304 by omega] at this
  have o3 : bits .or .i64 (hi * 1073741824 + x1 * 4194304 + m2 * 32768) (x3 * 128) = hi * 1073741824 + x1 * 4194304 + m2 * 32768 + x3 * 128 := by
    have := i64_or_low 15 (hi * 32768 + x1 * 128 + m2) (x3 * 128) 32768 rfl (by omega) (by omega) (by omega) (by omega)
    rwa [show (hi * 32768 + x1 * 128 + m2) * 32768 = hi * 1073741824 + x1 * 4194304 + m2 * 32768 by omega] at this
  have o4 : bits .or .i64 (hi * 1073741824 + x1 * 4194304 + m2 * 32768 + x3 * 128) m4 = hi * 1073741824 + x1 * 4194304 + m2 * 32768 + x3 * 128 + m4 := by
    have := i64_or_low 7 (hi * 8388608 + x1 * 32768 + m2 * 256 + x3) m4 128 rfl (by omega) (by omega) (by omega) (by omega)
    rwa [show (hi * 8388608 + x1 * 32768 + m2 * 256 + x3) * 128 = hi * 1073741824 + x1 * 4194304 + m2 * 32768 + x3 * 128 by omega] at this
  have w0 : IntKind.i64.wrap (hi * 1073741824) = hi * 1073741824 := IntWalk.i64_in _ (by omega)
  have w1 : IntKind.i64.wrap (x1 * 4194304) = x1 * 4194304 := IntWalk.i64_in _ (by omega)
  have w2 : IntKind.i64.wrap (m2 * 32768) = m2 * 32768 := IntWalk.i64_in _ (by omega)
  have w3 : IntKind.i64.wrap (x3 * 128) = x3 * 128 := IntWalk.i64_in _ (by omega)
  have w4 : IntKind.i64.wrap x1 = x1 := IntWalk.i64_in _ (by omega)
  have w5 : IntKind.i64.wrap x3 = x3 := IntWalk.i64_in _ (by omega)
  have w6 : IntKind.i64.wrap m2 = m2 := IntWalk.i64_in _ (by omega)
  have w7 : IntKind.i64.wrap m4 = m4 := IntWalk.i64_in _ (by omega)
  have w8 : IntKind.i64.wrap hi = hi := IntWalk.i64_in _ (by omega)
  clear e_hi e_m2 e_m4
  go_enter Try.func41, Try.ntmps41
  go_wp2_with fail
  go_quiet (fail)
  go_wp2_with fail
  go_ret
  exact ⟨by rw [HV.out]; rfl, _, rfl⟩

end Go.Proofs.Ytojfaonlgkicfaa
