/- The contracts of product, plus. -/
import Derived.Test.YtclainbjidajbaaBits
namespace Go.Proofs.Ytclainbjidajbaa
open Go.RowKit

theorem natAbs_prod {x y : Int} (hx1 : -9223372036854775808 ≤ x) (hx2 : x ≤ 9223372036854775807) (hy1 : -9223372036854775808 ≤ y) (hy2 : y ≤ 9223372036854775807) :
    x.natAbs * y.natAbs ≤ 85070591730234615865843651857942052864 := by
  have := Nat.mul_le_mul (show x.natAbs ≤ 9223372036854775808 by omega) (show y.natAbs ≤ 9223372036854775808 by omega)
  omega

theorem wide_prod (x y : Int) (H L : Nat) (hH : x.natAbs * y.natAbs / 18446744073709551616 = H) (hL : x.natAbs * y.natAbs % 18446744073709551616 = L) :
    wideV (x * y) = .agg #[.bool ((decide (x < 0) != decide (y < 0)) && decide (¬ (H = 0 ∧ L = 0))), .int .u64 (H : Int), .int .u64 (L : Int)] := by
  unfold wideV
  rw [Int.natAbs_mul, hH, hL]
  congr 4
  rw [Bool.eq_iff_iff]
  simp only [decide_eq_true_eq, Bool.and_eq_true, bne_iff_ne, ne_eq, decide_eq_decide]
  have h0 : (H = 0 ∧ L = 0) ↔ x * y = 0 := by
    rw [← Int.natAbs_eq_zero, Int.natAbs_mul]
    omega
  rw [h0]
  rcases (by omega : x < 0 ∨ x = 0 ∨ 0 < x) with hx | hx | hx <;> rcases (by omega : y < 0 ∨ y = 0 ∨ 0 < y) with hy | hy | hy
  · have := Int.mul_pos_of_neg_of_neg hx hy; omega
  · subst hy; simp
  · have := Int.mul_neg_of_neg_of_pos hx hy; omega
  · subst hx; simp
  · subst hx; simp
  · subst hx; simp
  · have := Int.mul_neg_of_pos_of_neg hx hy; omega
  · subst hy; simp
  · have := Int.mul_pos hx hy; omega

set_option maxHeartbeats 1000000 in
theorem rat_product (x y : Int) (w : World) (x1 : -9223372036854775808 ≤ x) (x2 : x ≤ 9223372036854775807) (y1 : -9223372036854775808 ≤ y) (y2 : y ≤ 9223372036854775807) :
    Calls Try.prog 49 #[.int .i64 x, .int .i64 y] w fun e w' => e = .returned (wideV (x * y)) ∧ Below w.heap.size w w' := by
  have hm := fun w => bits_Mul64 x.natAbs y.natAbs (by omega) (by omega) w
  have hp := natAbs_prod x1 x2 y1 y2
  obtain ⟨H, hH⟩ : ∃ H, x.natAbs * y.natAbs / 18446744073709551616 = H := ⟨_, rfl⟩
  obtain ⟨L, hL⟩ : ∃ L, x.natAbs * y.natAbs % 18446744073709551616 = L := ⟨_, rfl⟩
  have bH : H < 18446744073709551616 := by omega
  have bL : L < 18446744073709551616 := by omega
  have hv := wide_prod x y H L hH hL
  rw [hH, hL] at hm
  have HM := Lib.hid hm
  have HV := Lib.hid hv
  have hor := or_nz H L bH bL
  clear hm hv hH hL hp
  obtain ⟨B, hB⟩ : ∃ B, decide (¬ (H = 0 ∧ L = 0)) = B := ⟨_, rfl⟩
  rw [hB] at hor HV
  clear hB
  rcases Bool.eq_false_or_eq_true (decide (x < 0)) with gx | gx <;> rcases Bool.eq_false_or_eq_true (decide (y < 0)) with gy | gy
  all_goals
    have hd := HV.out
    simp only [gx, gy, bne_self_eq_false, Bool.true_bne, Bool.false_bne, Bool.not_false, Bool.false_and, Bool.true_and] at hd
    have HD := Lib.hid hd
    clear hd HV
    go_enter Try.func49, Try.ntmps49
    go_wp2_with (first | (go_at_call 55; ((with_reducible refine (rat_magnitude _ _ (by omega) (by omega)).mono ?_); rintro e w1 ⟨rfl, rfl⟩)) | (go_at_call 56; ((with_reducible refine (HM.out _).mono ?_); rintro e w1 ⟨rfl, rfl⟩)))
    refine bodyPost_ret (v := wideV (x * y)) (by rw [HD.out]; simp [results, Try.results49, go_sem]) rfl ⟨rfl, ?_⟩
    exact (Below.refl _ _).alloc (Nat.le_refl _) _

set_option maxHeartbeats 1000000 in
theorem rat_plus_same (s : Bool) (h1 l1 h2 l2 : Nat) (w : World) (b1 : l1 < 18446744073709551616) (b2 : l2 < 18446744073709551616) :
    Calls Try.prog 52 #[.agg #[.bool s, .int .u64 h1, .int .u64 l1], .agg #[.bool s, .int .u64 h2, .int .u64 l2]] w fun e w' =>
      e = .returned (.agg #[.bool s, .int .u64 (((h1 + h2 + (l1 + l2) / 18446744073709551616) % 18446744073709551616 : Nat) : Int), .int .u64 (((l1 + l2) % 18446744073709551616 : Nat) : Int)]) ∧ Below w.heap.size w w' := by
  have a1 := run_bitsAdd64 (l1 : Int) l2 0 (by omega) (by omega) (by omega) (by omega)
  obtain ⟨L, hL⟩ : ∃ L : Nat, (l1 + l2) % 18446744073709551616 = L := ⟨_, rfl⟩
  obtain ⟨C, hC⟩ : ∃ C : Nat, (l1 + l2) / 18446744073709551616 = C := ⟨_, rfl⟩
  rw [show ((l1 : Int) + l2 + 0) % 18446744073709551616 = (L : Int) by omega, show ((l1 : Int) + l2 + 0) / 18446744073709551616 = (C : Int) by omega] at a1
  have a2 := run_bitsAdd64 (h1 : Int) h2 C (by omega) (by omega) (by omega) (by omega)
  obtain ⟨H, hH⟩ : ∃ H : Nat, (h1 + h2 + C) % 18446744073709551616 = H := ⟨_, rfl⟩
  obtain ⟨D, hD⟩ : ∃ D : Nat, (h1 + h2 + C) / 18446744073709551616 = D := ⟨_, rfl⟩
  rw [show ((h1 : Int) + h2 + C) % 18446744073709551616 = (H : Int) by omega, show ((h1 : Int) + h2 + C) / 18446744073709551616 = (D : Int) by omega] at a2
  rw [hL, hC, hH]
  clear hL hC hH hD b1 b2
  go_enter Try.func52, Try.ntmps52
  go_wp2_with fail
  refine bodyPost_ret (v := .agg #[.bool s, .int .u64 (H : Int), .int .u64 (L : Int)]) (by simp [results, Try.results52, go_sem]) rfl ⟨rfl, ?_⟩
  exact (((Below.refl _ _).alloc (Nat.le_refl _) _).alloc (by simp) _).alloc (by simp; omega) _

theorem or_cases (H L : Nat) (bH : H < 18446744073709551616) (bL : L < 18446744073709551616) : ∃ B : Bool, (bits .or .u64 (H : Int) (L : Int) != 0) = B ∧ B = decide (¬ (H = 0 ∧ L = 0)) := ⟨_, rfl, or_nz H L bH bL⟩

set_option maxHeartbeats 1000000 in
/-- The signs differ, and the first number is not less. -/
theorem rat_plus_more (s : Bool) (h1 l1 h2 l2 : Nat) (w : World) (b1 : l1 < 18446744073709551616) (b2 : l2 < 18446744073709551616) (b3 : h1 < 18446744073709551616) (b4 : h2 < 18446744073709551616) (hm : h2 < h1 ∨ h2 = h1 ∧ l2 ≤ l1) :
    Calls Try.prog 52 #[.agg #[.bool s, .int .u64 h1, .int .u64 l1], .agg #[.bool (!s), .int .u64 h2, .int .u64 l2]] w fun e w' =>
      ∃ H L : Nat, e = .returned (.agg #[.bool (s && decide (¬ (H = 0 ∧ L = 0))), .int .u64 (H : Int), .int .u64 (L : Int)]) ∧ H < 18446744073709551616 ∧ L < 18446744073709551616 ∧ H * 18446744073709551616 + L + (h2 * 18446744073709551616 + l2) = h1 * 18446744073709551616 + l1 ∧ Below w.heap.size w w' := by
  have a1 := run_bitsSub64 l1 l2 0 (by omega)
  obtain ⟨L, hL⟩ : ∃ L : Nat, (l1 + 18446744073709551616 - l2 - 0) % 18446744073709551616 = L := ⟨_, rfl⟩
  obtain ⟨C, hC⟩ : ∃ C : Nat, (if l1 < l2 + 0 then 1 else 0 : Nat) = C := ⟨_, rfl⟩
  have bC : C ≤ 1 := by rw [← hC]; split <;> omega
  have eC : L + l2 = l1 + C * 18446744073709551616 := by rw [← hC]; split <;> omega
  rw [hL, hC] at a1
  have a2 := run_bitsSub64 h1 h2 C bC
  obtain ⟨H, hH⟩ : ∃ H : Nat, (h1 + 18446744073709551616 - h2 - C) % 18446744073709551616 = H := ⟨_, rfl⟩
  obtain ⟨D, hD⟩ : ∃ D : Nat, (if h1 < h2 + C then 1 else 0 : Nat) = D := ⟨_, rfl⟩
  rw [hH, hD] at a2
  have hle : h2 + C ≤ h1 := by rcases hm with h | h <;> omega
  have eH : H + h2 + C = h1 := by omega
  have bH : H < 18446744073709551616 := by omega
  have bL : L < 18446744073709551616 := by omega
  have hfin : H * 18446744073709551616 + L + (h2 * 18446744073709551616 + l2) = h1 * 18446744073709551616 + l1 := by omega
  have HF := Lib.hid hfin
  obtain ⟨B, hor, hB⟩ := or_cases H L bH bL
  have HB := Lib.hid hB
  have a1' : ∀ w, (callFunc 59 #[.int .u64 l1, .int .u64 l2, .int .u64 0]).run Try.prog w = .ok (.value (.tuple #[.int .u64 (L : Int), .int .u64 (C : Int)])) w := a1
  have n1 : (s == !s) = false := by cases s <;> rfl
  have n2 : ((!s) == s) = false := by cases s <;> rfl
  have BH := Lib.hid bH
  have BL := Lib.hid bL
  clear hL hC hH hD a1 bC eC eH hle hfin hB bH bL
  have fin : ∀ w', Below w.heap.size w w' → ∃ H' L' : Nat, Ending.returned (.agg #[.bool (s && B), .int .u64 (H : Int), .int .u64 (L : Int)]) = Ending.returned (.agg #[.bool (s && decide (¬ (H' = 0 ∧ L' = 0))), .int .u64 (H' : Int), .int .u64 (L' : Int)]) ∧ H' < 18446744073709551616 ∧ L' < 18446744073709551616 ∧ H' * 18446744073709551616 + L' + (h2 * 18446744073709551616 + l2) = h1 * 18446744073709551616 + l1 ∧ Below w.heap.size w w' :=
    fun w' hw => ⟨H, L, by rw [HB.out], BH.out, BL.out, HF.out, hw⟩
  have FIN := Lib.hid fin
  clear fin
  rcases hm with hm | hm
  · have t1 : ((h1 : Int) == (h2 : Int)) = false := by simp; omega
    have t2 : ¬ h1 < h2 := by omega
    cases s
    all_goals
      go_enter Try.func52, Try.ntmps52
      go_wp2_with fail
      refine bodyPost_ret (v := .agg #[.bool (_ && B), .int .u64 (H : Int), .int .u64 (L : Int)]) (by simp [results, Try.results52, go_sem]) rfl (FIN.out _ ?_)
      exact (((Below.refl _ _).alloc (Nat.le_refl _) _).alloc (by simp) _).alloc (by simp; omega) _
  · obtain ⟨rfl, hm⟩ := hm
    have t2 : ¬ l1 < l2 := by omega
    cases s
    all_goals
      go_enter Try.func52, Try.ntmps52
      go_wp2_with fail
      refine bodyPost_ret (v := .agg #[.bool (_ && B), .int .u64 (H : Int), .int .u64 (L : Int)]) (by simp [results, Try.results52, go_sem]) rfl (FIN.out _ ?_)
      exact (((Below.refl _ _).alloc (Nat.le_refl _) _).alloc (by simp) _).alloc (by simp; omega) _
end Go.Proofs.Ytclainbjidajbaa
