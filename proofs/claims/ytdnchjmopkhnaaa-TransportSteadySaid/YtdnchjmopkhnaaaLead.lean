/- LeadingZeros64 off the library's shelf of contracts: the count by which a number is shifted up to 64 bits. -/
import Derived.Shelf.Small.Bits
import Derived.Test.YtdnchjmopkhnaaaBits
namespace Go.Proofs.Ytdnchjmopkhnaaa
open Go.Shelf Go.RowKit
def lead_ren : Go.Shelf.Ren := ⟨fun | 134 => 66 | 129 => 67 | n => n, fun | 53 => 90 | 3 => 3 | 4 => 4 | 46 => 76 | 5 => 5 | 9 => 9 | n => n, fun | n => n⟩
theorem lead_lays : Go.Proofs.Lays.n134 Try.prog lead_ren := {
  mixed := by kernel_rfl
  f129 := Try.func67.trans (congrArg some (by kernel_rfl))
  f134 := Try.func66.trans (congrArg some (by kernel_rfl))
  t3 := Try.underlying3
  a3 := Try.isAgg3
  z3 := Try.sizeOf3
  v3 := Try.zeroValue3
  t4 := Try.underlying4
  a4 := Try.isAgg4
  z4 := Try.sizeOf4
  v4 := Try.zeroValue4
  t5 := Try.underlying5
  a5 := Try.isAgg5
  z5 := Try.sizeOf5
  v5 := Try.zeroValue5
  t9 := Try.underlying9
  a9 := Try.isAgg9
  z9 := Try.sizeOf9
  v9 := Try.zeroValue9
  t46 := Try.underlying76
  a46 := Try.isAgg76
  z46 := Try.sizeOf76
  v46 := Try.zeroValue76
  t53 := Try.underlying90
  a53 := Try.isAgg90
  z53 := Try.sizeOf90
  v53 := Try.zeroValue90 }

theorem bitLen_is : ∀ (n x : Nat), x ≤ n → 0 < x → x < 2 ^ 64 → 1 ≤ Lib.bitLen x ∧ 2 ^ (Lib.bitLen x - 1) ≤ x ∧ x < 2 ^ Lib.bitLen x := by
  intro n
  induction n with
  | zero => intro x h1 h2; omega
  | succ n ih =>
    intro x h1 h2 h3
    rw [Lib.bitLen_half x (by omega) h3]
    rcases Nat.eq_zero_or_pos (x / 2) with h0 | h0
    · have hx : x = 1 := by omega
      subst hx
      decide
    · obtain ⟨i1, i2, i3⟩ := ih (x / 2) (by omega) h0 (by omega)
      generalize Lib.bitLen (x / 2) = k at *
      obtain ⟨j, rfl⟩ : ∃ j, k = j + 1 := ⟨k - 1, by omega⟩
      have e1 : 1 + (j + 1) - 1 = j + 1 := by omega
      have e2 : 1 + (j + 1) = (j + 1) + 1 := by omega
      have e3 : j + 1 - 1 = j := by omega
      rw [e3] at i2
      refine ⟨by omega, ?_, ?_⟩
      · rw [e1, Nat.pow_succ]; omega
      · rw [e2, Nat.pow_succ]; omega

/-- s is the shift that brings y up to 64 bits. -/
def isShift (y s : Nat) : Prop := s ≤ 63 ∧ 9223372036854775808 ≤ y * 2 ^ s ∧ y * 2 ^ s < 18446744073709551616

theorem shift_ex (y : Nat) (h0 : 0 < y) (h : y < 18446744073709551616) : ∃ s : Nat, (64 - (Lib.bitLen y : Int)) = (s : Int) ∧ isShift y s := by
  obtain ⟨h1, h2, h3⟩ := bitLen_is y y (Nat.le_refl _) h0 h
  have h4 := Lib.bitLen_le y 64 (Nat.le_refl _) h
  generalize Lib.bitLen y = k at *
  refine ⟨64 - k, by omega, by omega, ?_, ?_⟩
  · have e : 2 ^ (k - 1) * 2 ^ (64 - k) = 9223372036854775808 := by
      rw [← Nat.pow_add, show k - 1 + (64 - k) = 63 by omega]
    rw [← e]
    exact Nat.mul_le_mul_right _ h2
  · have e : 2 ^ k * 2 ^ (64 - k) = 18446744073709551616 := by
      rw [← Nat.pow_add, show k + (64 - k) = 64 by omega]
    rw [← e]
    exact Nat.mul_lt_mul_of_pos_right h3 (Nat.pow_pos (by omega))

theorem bits_Lead (y : Nat) (h0 : 0 < y) (h : y < 18446744073709551616) : ∃ s : Nat, isShift y s ∧ ∀ w : World,
    Calls Try.prog 66 #[.int .u64 y] w fun e w' => e = .returned (.int .i64 (s : Int)) ∧ w = w' := by
  obtain ⟨s, e, hs⟩ := shift_ex y h0 h
  refine ⟨s, hs, fun w => ?_⟩
  refine (Any.bits_LeadingZeros64 lead_lays (y : Int) w (by omega) (by omega)).mono ?_
  rintro e' w' ⟨rfl, rfl⟩
  exact ⟨by rw [Int.toNat_natCast, e], rfl⟩

/-! One digit of the division. -/
theorem digit_lt {y u v : Nat} (hu : u < y) (hv : v < 4294967296) : (u * 4294967296 + v) / y < 4294967296 := by
  rw [Nat.div_lt_iff_lt_mul (by omega)]
  have := Nat.mul_le_mul_right 4294967296 (show u + 1 ≤ y by omega)
  rw [Nat.add_mul] at this
  rw [Nat.mul_comm 4294967296 y]
  omega
theorem digit_start {y u v : Nat} (hy : 9223372036854775808 ≤ y) (hy2 : y < 18446744073709551616) (hu : u < y) (hv : v < 4294967296) :
    (u * 4294967296 + v) / y ≤ u / (y / 4294967296) ∧ u / (y / 4294967296) ≤ 4294967297 ∧ u / (y / 4294967296) * (y / 4294967296) + u % (y / 4294967296) = u ∧ u % (y / 4294967296) < y / 4294967296 := by
  have h1 : 2147483648 ≤ y / 4294967296 := by omega
  have h2 : y / 4294967296 < 4294967296 := by omega
  have e := Nat.div_add_mod u (y / 4294967296)
  have hm := Nat.mod_lt u (show y / 4294967296 > 0 by omega)
  have e' : u / (y / 4294967296) * (y / 4294967296) + u % (y / 4294967296) = u := by rw [Nat.mul_comm]; exact e
  refine ⟨?_, ?_, e', hm⟩
  · rw [← Nat.lt_succ_iff, Nat.div_lt_iff_lt_mul (by omega)]
    have h3 : y / 4294967296 * 4294967296 ≤ y := by omega
    have h4 := Nat.mul_le_mul_left (u / (y / 4294967296) + 1) h3
    have h5 : (u / (y / 4294967296) + 1) * (y / 4294967296 * 4294967296) = ((u / (y / 4294967296) + 1) * (y / 4294967296)) * 4294967296 := by rw [Nat.mul_assoc]
    have h6 : (u / (y / 4294967296) + 1) * (y / 4294967296) = u / (y / 4294967296) * (y / 4294967296) + y / 4294967296 := by rw [Nat.add_mul, Nat.one_mul]
    rw [Nat.succ_eq_add_one]
    omega
  · rw [← Nat.lt_succ_iff, Nat.div_lt_iff_lt_mul (by omega)]
    have : Nat.succ 4294967297 * (y / 4294967296) = 4294967298 * (y / 4294967296) := rfl
    rw [this]
    omega

/-- What the loop on a digit keeps. -/
structure Digit (y u v q r : Nat) : Prop where
  sum : q * (y / 4294967296) + r = u
  le : (u * 4294967296 + v) / y ≤ q
  top : q ≤ 4294967297

theorem digit_mul (y q : Nat) : q * y = q * (y / 4294967296) * 4294967296 + q * (y % 4294967296) := by
  have e : y = y / 4294967296 * 4294967296 + y % 4294967296 := by omega
  conv => lhs; rw [e, Nat.mul_add, ← Nat.mul_assoc]
theorem digit_step {y u v q r : Nat} (hy : 0 < y) (hu : u < y) (hv : v < 4294967296) (h : Digit y u v q r) (ht : 4294967296 ≤ q ∨ 4294967296 * r + v < q * (y % 4294967296)) :
    1 ≤ q ∧ Digit y u v (q - 1) (r + y / 4294967296) := by
  have hlt : (u * 4294967296 + v) / y < q := by
    rcases ht with ht | ht
    · have := digit_lt hu hv; omega
    · rw [Nat.div_lt_iff_lt_mul hy, digit_mul y q]
      have := h.sum
      generalize q * (y / 4294967296) = P1 at *
      generalize q * (y % 4294967296) = P0 at *
      omega
  have h1 : 1 ≤ q := Nat.lt_of_le_of_lt (Nat.zero_le _) hlt
  refine ⟨h1, ?_, Nat.le_sub_one_of_lt hlt, by have := h.top; omega⟩
  have e : q * (y / 4294967296) = (q - 1) * (y / 4294967296) + y / 4294967296 := by
    conv => lhs; rw [show q = (q - 1) + 1 by omega, Nat.add_mul, Nat.one_mul]
  have := h.sum
  omega
theorem digit_done {y u v q r : Nat} (hy : 0 < y) (h : Digit y u v q r) (ht : q * (y % 4294967296) ≤ 4294967296 * r + v) : q = (u * 4294967296 + v) / y := by
  apply Nat.le_antisymm _ h.le
  rw [Nat.le_div_iff_mul_le hy, digit_mul y q]
  have := h.sum
  generalize q * (y / 4294967296) = P1 at *
  generalize q * (y % 4294967296) = P0 at *
  omega
theorem digit_break {y u v q r : Nat} (hy : 0 < y) (h : Digit y u v q r) (hr : 4294967296 ≤ r) : q = (u * 4294967296 + v) / y := by
  apply digit_done hy h
  have h1 := Nat.mul_le_mul h.top (show y % 4294967296 ≤ 4294967295 by omega)
  omega
end Go.Proofs.Ytdnchjmopkhnaaa
