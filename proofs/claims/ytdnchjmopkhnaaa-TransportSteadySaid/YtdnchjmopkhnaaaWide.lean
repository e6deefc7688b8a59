/- The contracts of product, plus. -/
import Derived.Test.YtdnchjmopkhnaaaBits
namespace Go.Proofs.Ytdnchjmopkhnaaa
open Go.RowKit

theorem natAbs_prod {x y : Int} (hx1 : -9223372036854775808 ≤ x) (hx2 : x ≤ 9223372036854775807) (hy1 : -9223372036854775808 ≤ y) (hy2 : y ≤ 9223372036854775807) :
    x.natAbs * y.natAbs ≤ 85070591730234615865843651857942052864 := by
  have := Nat.mul_le_mul (show x.natAbs ≤ 9223372036854775808 by omega) (show y.natAbs ≤ 9223372036854775808 by omega)
  omega

theorem wide_prod (x y : Int) (H L : Nat) (hH : x.natAbs * y.natAbs / 18446744073709551616 = H) (hL : x.natAbs * y.natAbs % 18446744073709551616 = L) :
    wideV (x * y) = .agg #[.bool ((decide (x < 0) != decide (y < 0)) && decide (¬ (H = 0 ∧ L = 0))), .int .u64 (H : Int), .int .u64 (L : Int)] := by
  unfold wideV
  rw [Int.natAbs_mul, hH, hL]
  congr 4
  rw [Bool.eq_iff_iff]
  simp only [decide_eq_true_eq, Bool.and_eq_true, bne_iff_ne, ne_eq, decide_eq_decide]
  have h0 : (H = 0 ∧ L = 0) ↔ x * y = 0 := by
    rw [← Int.natAbs_eq_zero, Int.natAbs_mul]
    omega
  rw [h0]
  rcases (by omega : x < 0 ∨ x = 0 ∨ 0 < x) with hx | hx | hx <;> rcases (by omega : y < 0 ∨ y = 0 ∨ 0 < y) with hy | hy | hy
  · have := Int.mul_pos_of_neg_of_neg hx hy; omega
  · subst hy; simp
  · have := Int.mul_neg_of_neg_of_pos hx hy; omega
  · subst hx; simp
  · subst hx; simp
  · subst hx; simp
  · have := Int.mul_neg_of_pos_of_neg hx hy; omega
  · subst hy; simp
  · have := Int.mul_pos hx hy; omega

set_option maxHeartbeats 1000000 in
theorem rat_product (x y : Int) (w : World) (x1 : -9223372036854775808 ≤ x) (x2 : x ≤ 9223372036854775807) (y1 : -9223372036854775808 ≤ y) (y2 : y ≤ 9223372036854775807) :
    Calls Try.prog 57 #[.int .i64 x, .int .i64 y] w fun e w' => e = .returned (wideV (x * y)) ∧ Below w.heap.size w w' := by
  have hm := fun w => bits_Mul64 x.natAbs y.natAbs (by omega) (by omega) w
  have hp := natAbs_prod x1 x2 y1 y2
  obtain ⟨H, hH⟩ : ∃ H, x.natAbs * y.natAbs / 18446744073709551616 = H := ⟨_, rfl⟩
  obtain ⟨L, hL⟩ : ∃ L, x.natAbs * y.natAbs % 18446744073709551616 = L := ⟨_, rfl⟩
  have bH : H < 18446744073709551616 := by omega
  have bL : L < 18446744073709551616 := by omega
  have hv := wide_prod x y H L hH hL
  rw [hH, hL] at hm
  have HM := Lib.hid hm
  have HV := Lib.hid hv
  have hor := or_nz H L bH bL
  clear hm hv hH hL hp
  obtain ⟨B, hB⟩ : ∃ B, decide (¬ (H = 0 ∧ L = 0)) = B := ⟨_, rfl⟩
  rw [hB] at hor HV
  clear hB
  rcases Bool.eq_false_or_eq_true (decide (x < 0)) with gx | gx <;> rcases Bool.eq_false_or_eq_true (decide (y < 0)) with gy | gy
  all_goals
    have hd := HV.out
    simp only [gx, gy, bne_self_eq_false, Bool.true_bne, Bool.false_bne, Bool.not_false, Bool.false_and, Bool.true_and] at hd
    have HD := Lib.hid hd
    clear hd HV
    go_enter Try.func57, Try.ntmps57
    go_wp2_with (first | (go_at_call 64; ((with_reducible refine (rat_magnitude _ _ (by omega) (by omega)).mono ?_); rintro e w1 ⟨rfl, rfl⟩)) | (go_at_call 63; ((with_reducible refine (HM.out _).mono ?_); rintro e w1 ⟨rfl, rfl⟩)))
    refine bodyPost_ret (v := wideV (x * y)) (by rw [HD.out]; simp [results, Try.results57, go_sem]) rfl ⟨rfl, ?_⟩
    exact (Below.refl _ _).alloc (Nat.le_refl _) _


theorem or_cases (H L : Nat) (bH : H < 18446744073709551616) (bL : L < 18446744073709551616) : ∃ B : Bool, (bits .or .u64 (H : Int) (L : Int) != 0) = B ∧ B = decide (¬ (H = 0 ∧ L = 0)) := ⟨_, rfl, or_nz H L bH bL⟩

end Go.Proofs.Ytdnchjmopkhnaaa
