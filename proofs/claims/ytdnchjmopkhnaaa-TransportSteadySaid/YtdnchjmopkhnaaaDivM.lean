/- The plain numbers of the division of 128 by 64 bits. -/
import Derived.Test.YtdnchjmopkhnaaaLead
namespace Go.Proofs.Ytdnchjmopkhnaaa
open Go.RowKit

/-- What the shift by s makes of the numbers: Y the divisor, U and LO the dividend's halves. -/
structure Normed (hi lo y s Y U LO : Nat) : Prop where
  eY : IntKind.u64.wrap ((y : Int) * 2 ^ s) = (Y : Int)
  eL : IntKind.u64.wrap ((lo : Int) * 2 ^ s) = (LO : Int)
  eU : bits .or .u64 (IntKind.u64.wrap ((hi : Int) * 2 ^ s)) ((lo : Int) / 2 ^ (64 - s)) = (U : Int)
  y1 : 9223372036854775808 ≤ Y
  y2 : Y < 18446744073709551616
  u : U < Y
  l : LO < 18446744073709551616
  q : (U * 18446744073709551616 + LO) / Y = (hi * 18446744073709551616 + lo) / y
  r : (U * 18446744073709551616 + LO) % Y / 2 ^ s = (hi * 18446744073709551616 + lo) % y

theorem normed {hi lo y s : Nat} (h : hi < y) (hlo : lo < 18446744073709551616) (hs : isShift y s) : ∃ Y U LO, Normed hi lo y s Y U LO := by
  obtain ⟨s1, s2, s3⟩ := hs
  have hp : 0 < 2 ^ s := Nat.pow_pos (by omega)
  have e64 : 2 ^ (64 - s) * 2 ^ s = 18446744073709551616 := by rw [← Nat.pow_add, show 64 - s + s = 64 by omega]
  have hp' : 0 < 2 ^ (64 - s) := Nat.pow_pos (by omega)
  have hhi : (hi + 1) * 2 ^ s ≤ y * 2 ^ s := Nat.mul_le_mul_right _ h
  rw [Nat.add_mul, Nat.one_mul] at hhi
  have ht : lo / 2 ^ (64 - s) < 2 ^ s := by rw [Nat.div_lt_iff_lt_mul hp', Nat.mul_comm, e64]; exact hlo
  have hr := Nat.mod_lt lo hp'
  have hlo2 := Nat.div_add_mod lo (2 ^ (64 - s))
  have hm : lo % 2 ^ (64 - s) * 2 ^ s < 18446744073709551616 := by
    rw [← e64]; exact Nat.mul_lt_mul_of_pos_right hr hp
  have hL : lo * 2 ^ s = lo / 2 ^ (64 - s) * 18446744073709551616 + lo % 2 ^ (64 - s) * 2 ^ s := by
    conv => lhs; rw [← hlo2, Nat.add_mul, Nat.mul_comm (2 ^ (64 - s)), Nat.mul_assoc, e64]
  have castY : ((y : Int) * 2 ^ s) = ((y * 2 ^ s : Nat) : Int) := by simp
  have castL : ((lo : Int) * 2 ^ s) = ((lo * 2 ^ s : Nat) : Int) := by simp
  have castH : ((hi : Int) * 2 ^ s) = ((hi * 2 ^ s : Nat) : Int) := by simp
  have castT : ((lo : Int) / 2 ^ (64 - s)) = ((lo / 2 ^ (64 - s) : Nat) : Int) := by simp
  have hV : (hi * 18446744073709551616 + lo) * 2 ^ s = (hi * 2 ^ s + lo / 2 ^ (64 - s)) * 18446744073709551616 + lo % 2 ^ (64 - s) * 2 ^ s := by
    rw [Nat.add_mul, hL, Nat.add_mul, Nat.mul_right_comm]
    omega
  refine ⟨y * 2 ^ s, hi * 2 ^ s + lo / 2 ^ (64 - s), lo % 2 ^ (64 - s) * 2 ^ s, ?_, ?_, ?_, s2, s3, by omega, hm, ?_, ?_⟩
  · rw [castY, IntKind.wrap_u64]; omega
  · rw [castL, hL, IntKind.wrap_u64]
    generalize lo % 2 ^ (64 - s) * 2 ^ s = A at *
    generalize lo / 2 ^ (64 - s) = B at *
    omega
  · rw [castH, castT, M64.wrapN _ (by omega), bits_or_u64_nat _ _ (by omega) (by omega), Nat.mul_comm hi, ← Nat.two_pow_add_eq_or_of_lt ht]
  · rw [← hV, Nat.mul_div_mul_right _ _ hp]
  · rw [← hV, Nat.mul_mod_mul_right, Nat.mul_div_cancel _ hp]

/-- The digits put together. -/
theorem digits {U LO Y : Nat} (hY : 0 < Y) :
    let D1 := (U * 4294967296 + LO / 4294967296) / Y
    let R1 := (U * 4294967296 + LO / 4294967296) % Y
    let D0 := (R1 * 4294967296 + LO % 4294967296) / Y
    let R0 := (R1 * 4294967296 + LO % 4294967296) % Y
    (U * 18446744073709551616 + LO) / Y = D1 * 4294967296 + D0 ∧ (U * 18446744073709551616 + LO) % Y = R0 := by
  intro D1 R1 D0 R0
  have e1 : Y * D1 + R1 = U * 4294967296 + LO / 4294967296 := Nat.div_add_mod _ _
  have e2 : Y * D0 + R0 = R1 * 4294967296 + LO % 4294967296 := Nat.div_add_mod _ _
  have hR : R0 < Y := Nat.mod_lt _ hY
  have e3 : U * 18446744073709551616 + LO = Y * (D1 * 4294967296 + D0) + R0 := by
    rw [Nat.mul_add, ← Nat.mul_assoc]
    omega
  rw [e3]
  exact ⟨by rw [Nat.mul_add_div hY, Nat.div_eq_of_lt hR, Nat.add_zero], by rw [Nat.mul_add_mod, Nat.mod_eq_of_lt hR]⟩

/-- The rest of a digit, as the program reckons it modulo 2^64. -/
theorem rest_u64 {u v y q R : Nat} (h : y * q + R = u * 4294967296 + v) (hR : R < 18446744073709551616) :
    IntKind.u64.wrap (IntKind.u64.wrap (IntKind.u64.wrap ((u : Int) * 4294967296) + (v : Int)) - IntKind.u64.wrap ((q : Int) * (y : Int))) = (R : Int) := by
  have e : (q : Int) * (y : Int) = ((y * q : Nat) : Int) := by rw [Nat.mul_comm]; simp
  rw [e]
  simp only [IntKind.wrap_u64]
  omega
end Go.Proofs.Ytdnchjmopkhnaaa
