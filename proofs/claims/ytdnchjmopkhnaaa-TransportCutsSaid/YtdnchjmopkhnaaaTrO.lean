/- transport.decode: its head. -/
import Derived.Test.YtdnchjmopkhnaaaTrN
import Derived.Deep.MidRow
namespace Go.Proofs.Ytdnchjmopkhnaaa
open Go.RowKit
attribute [local go_sem ↓] Go.wp_at_zero Go.wp_at_succ

theorem u8_mask5 (x : Int) (h0 : 0 ≤ x) (h1 : x ≤ 255) : bits .and .u8 x 31 = x % 32 := by
  rw [u8_and x 31 (by omega) (by omega) (by omega) (by omega), show (31 : Int).toNat = 2 ^ 5 - 1 from rfl, Nat.and_two_pow_sub_one_eq_mod]
  omega
theorem u8_mask4 (x : Int) (h0 : 0 ≤ x) (h1 : x ≤ 255) : bits .and .u8 x 15 = x % 16 := by
  rw [u8_and x 15 (by omega) (by omega) (by omega) (by omega), show (15 : Int).toNat = 2 ^ 4 - 1 from rfl, Nat.and_two_pow_sub_one_eq_mod]
  omega
theorem u8_bit64 (x : Int) (h0 : 0 ≤ x) (h1 : x ≤ 255) : (bits .and .u8 x 64 != 0) = decide (x / 64 % 2 = 1) := by
  rw [u8_and x 64 (by omega) (by omega) (by omega) (by omega)]
  obtain ⟨n, rfl⟩ := Int.eq_ofNat_of_zero_le h0
  have key : ∀ n : Nat, n < 256 → (((n &&& 64 : Nat) : Int) != 0) = decide ((n : Int) / 64 % 2 = 1) := by decide +kernel
  exact key n (by omega)
theorem u8_bit32 (x : Int) (h0 : 0 ≤ x) (h1 : x ≤ 255) : (bits .and .u8 x 32 != 0) = decide (x / 32 % 2 = 1) := by
  rw [u8_and x 32 (by omega) (by omega) (by omega) (by omega)]
  obtain ⟨n, rfl⟩ := Int.eq_ofNat_of_zero_le h0
  have key : ∀ n : Nat, n < 256 → (((n &&& 32 : Nat) : Int) != 0) = decide ((n : Int) / 32 % 2 = 1) := by decide +kernel
  exact key n (by omega)
theorem u8_bit16 (x : Int) (h0 : 0 ≤ x) (h1 : x ≤ 255) : (bits .and .u8 x 16 != 0) = decide (x / 16 % 2 = 1) := by
  rw [u8_and x 16 (by omega) (by omega) (by omega) (by omega)]
  obtain ⟨n, rfl⟩ := Int.eq_ofNat_of_zero_le h0
  have key : ∀ n : Nat, n < 256 → (((n &&& 16 : Nat) : Int) != 0) = decide ((n : Int) / 16 % 2 = 1) := by decide +kernel
  exact key n (by omega)

set_option maxRecDepth 100000 in
theorem sub_3 (b off n c : Nat) (lo : Int) (h0 : 0 ≤ lo) (h1 : lo ≤ 188) (h2 : 188 ≤ n) (hc : n ≤ c) :
    ∃ A' c', (∀ w, (Instr.slice 22 (.slice (some ⟨b, off, none⟩) n c) (some (.int .i64 lo)) (some (.int .i64 188)) (some (.int .i64 188))).run Try.prog w = .ok (.slice A' (188 - lo).toNat c') w) ∧
      ∀ (q : Nat → Prop) (W : World) (l : List Int), Byt q W (some ⟨b, off, none⟩) n l → Byt q W A' (188 - lo).toNat ((l.drop lo.toNat).take (188 - lo).toNat) := by
  have hsz : ∀ w, (sizeOf 5).run Try.prog w = .ok 1 w := fun _ => by kernel_rfl
  by_cases he : lo = 188
  · subst he
    refine ⟨some ⟨b, off, none⟩, 0, fun w => ?_, fun q W l hB => ?_⟩
    · rw [run_slice_lhm (P := Try.prog) w 22 (some ⟨b, off, none⟩) n c Try.underlying22 .i64 .i64 .i64 188 188 188 (by omega) (by omega) (by omega) (by omega)]
      have hz := hsz w
      show ((sizeOf 5).run Try.prog w).andThen _ = _
      rw [hz]
      simp [Result.andThen, sliced]
    · rw [show (188 - (188 : Int)).toNat = 0 from rfl]
      exact Byt.nil
  · refine ⟨some ⟨b, off + lo.toNat, none⟩, 188 - lo.toNat, fun w => ?_, fun q W l hB => Byt.sub hB (by omega)⟩
    rw [run_slice_lhm (P := Try.prog) w 22 (some ⟨b, off, none⟩) n c Try.underlying22 .i64 .i64 .i64 lo 188 188 (by omega) (by omega) (by omega) (by omega)]
    have hz := hsz w
    show ((sizeOf 5).run Try.prog w).andThen _ = _
    rw [hz]
    simp only [Result.andThen, sliced]
    rw [if_neg (by omega), show (188 : Int).toNat - lo.toNat = (188 - lo).toNat by omega]
    simp [Addr.add]
    omega
end Go.Proofs.Ytdnchjmopkhnaaa
