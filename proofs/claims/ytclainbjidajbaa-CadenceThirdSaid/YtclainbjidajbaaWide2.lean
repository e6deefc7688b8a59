/- plus, where the signs differ and the first number is less. -/
import Derived.Test.YtclainbjidajbaaWide
namespace Go.Proofs.Ytclainbjidajbaa
open Go.RowKit

set_option maxHeartbeats 1000000 in
/-- The signs differ, and the first number is less. -/
theorem rat_plus_less (s : Bool) (h1 l1 h2 l2 : Nat) (w : World) (b1 : l1 < 18446744073709551616) (b2 : l2 < 18446744073709551616) (b3 : h1 < 18446744073709551616) (b4 : h2 < 18446744073709551616) (hm : h1 < h2 ∨ h1 = h2 ∧ l1 < l2) :
    Calls Try.prog 52 #[.agg #[.bool s, .int .u64 h1, .int .u64 l1], .agg #[.bool (!s), .int .u64 h2, .int .u64 l2]] w fun e w' =>
      ∃ H L : Nat, e = .returned (.agg #[.bool (!s && decide (¬ (H = 0 ∧ L = 0))), .int .u64 (H : Int), .int .u64 (L : Int)]) ∧ H < 18446744073709551616 ∧ L < 18446744073709551616 ∧ H * 18446744073709551616 + L + (h1 * 18446744073709551616 + l1) = h2 * 18446744073709551616 + l2 ∧ Below w.heap.size w w' := by
  have a1 := run_bitsSub64 l2 l1 0 (by omega)
  obtain ⟨L, hL⟩ : ∃ L : Nat, (l2 + 18446744073709551616 - l1 - 0) % 18446744073709551616 = L := ⟨_, rfl⟩
  obtain ⟨C, hC⟩ : ∃ C : Nat, (if l2 < l1 + 0 then 1 else 0 : Nat) = C := ⟨_, rfl⟩
  have bC : C ≤ 1 := by rw [← hC]; split <;> omega
  have eC : L + l1 = l2 + C * 18446744073709551616 := by rw [← hC]; split <;> omega
  rw [hL, hC] at a1
  have a2 := run_bitsSub64 h2 h1 C bC
  obtain ⟨H, hH⟩ : ∃ H : Nat, (h2 + 18446744073709551616 - h1 - C) % 18446744073709551616 = H := ⟨_, rfl⟩
  obtain ⟨D, hD⟩ : ∃ D : Nat, (if h2 < h1 + C then 1 else 0 : Nat) = D := ⟨_, rfl⟩
  rw [hH, hD] at a2
  have hle : h1 + C ≤ h2 := by rcases hm with h | h <;> omega
  have eH : H + h1 + C = h2 := by omega
  have bH : H < 18446744073709551616 := by omega
  have bL : L < 18446744073709551616 := by omega
  have hfin : H * 18446744073709551616 + L + (h1 * 18446744073709551616 + l1) = h2 * 18446744073709551616 + l2 := by omega
  have HF := Lib.hid hfin
  obtain ⟨B, hor, hB⟩ := or_cases H L bH bL
  have HB := Lib.hid hB
  have a1' : ∀ w, (callFunc 59 #[.int .u64 l2, .int .u64 l1, .int .u64 0]).run Try.prog w = .ok (.value (.tuple #[.int .u64 (L : Int), .int .u64 (C : Int)])) w := a1
  have n1 : (s == !s) = false := by cases s <;> rfl
  have n2 : ((!s) == s) = false := by cases s <;> rfl
  have BH := Lib.hid bH
  have BL := Lib.hid bL
  clear hL hC hH hD a1 bC eC eH hle hfin hB bH bL
  have fin : ∀ w', Below w.heap.size w w' → ∃ H' L' : Nat, Ending.returned (.agg #[.bool (!s && B), .int .u64 (H : Int), .int .u64 (L : Int)]) = Ending.returned (.agg #[.bool (!s && decide (¬ (H' = 0 ∧ L' = 0))), .int .u64 (H' : Int), .int .u64 (L' : Int)]) ∧ H' < 18446744073709551616 ∧ L' < 18446744073709551616 ∧ H' * 18446744073709551616 + L' + (h1 * 18446744073709551616 + l1) = h2 * 18446744073709551616 + l2 ∧ Below w.heap.size w w' :=
    fun w' hw => ⟨H, L, by rw [HB.out], BH.out, BL.out, HF.out, hw⟩
  have FIN := Lib.hid fin
  clear fin
  rcases hm with hm | hm
  · cases s
    all_goals
      go_enter Try.func52, Try.ntmps52
      go_wp2_with fail
      refine bodyPost_ret (v := .agg #[.bool (!_ && B), .int .u64 (H : Int), .int .u64 (L : Int)]) (by simp [results, Try.results52, go_sem]) rfl (FIN.out _ ?_)
      exact (((Below.refl _ _).alloc (Nat.le_refl _) _).alloc (by simp) _).alloc (by simp; omega) _
  · obtain ⟨rfl, hm⟩ := hm
    cases s
    all_goals
      go_enter Try.func52, Try.ntmps52
      go_wp2_with fail
      refine bodyPost_ret (v := .agg #[.bool (!_ && B), .int .u64 (H : Int), .int .u64 (L : Int)]) (by simp [results, Try.results52, go_sem]) rfl (FIN.out _ ?_)
      exact (((Below.refl _ _).alloc (Nat.le_refl _) _).alloc (by simp) _).alloc (by simp; omega) _

theorem wide_small (n : Nat) (h : n < 18446744073709551616) : wideV (n : Int) = .agg #[.bool false, .int .u64 0, .int .u64 (n : Int)] := by
  unfold wideV
  rw [show decide ((n : Int) < 0) = false by simp, Int.natAbs_natCast, Nat.div_eq_of_lt h, Nat.mod_eq_of_lt h]
  rfl

theorem wide_eq {a : Int} {b : Bool} {H L : Nat} (hb : decide (a < 0) = b) (hH : a.natAbs / 18446744073709551616 = H) (hL : a.natAbs % 18446744073709551616 = L) :
    (.agg #[.bool b, .int .u64 (H : Int), .int .u64 (L : Int)] : Value) = wideV a := by unfold wideV; rw [hb, hH, hL]

set_option maxHeartbeats 1000000 in
theorem rat_plus (a b : Int) (w : World) (ha : a.natAbs < 340282366920938463463374607431768211456) (hb : b.natAbs < 340282366920938463463374607431768211456) (hs : (a + b).natAbs < 340282366920938463463374607431768211456) :
    Calls Try.prog 52 #[wideV a, wideV b] w fun e w' => e = .returned (wideV (a + b)) ∧ Below w.heap.size w w' := by
  have hE : decide (b < 0) = decide (a < 0) ∨ decide (b < 0) = !decide (a < 0) := by cases decide (b < 0) <;> cases decide (a < 0) <;> simp
  rcases hE with hE | hE
  · have hE' : b < 0 ↔ a < 0 := by simpa using hE
    have := rat_plus_same (decide (a < 0)) (a.natAbs / 18446744073709551616) (a.natAbs % 18446744073709551616) (b.natAbs / 18446744073709551616) (b.natAbs % 18446744073709551616) w (by omega) (by omega)
    rw [show wideV a = .agg #[.bool (decide (a < 0)), .int .u64 ((a.natAbs / 18446744073709551616 : Nat) : Int), .int .u64 ((a.natAbs % 18446744073709551616 : Nat) : Int)] from rfl, show wideV b = .agg #[.bool (decide (a < 0)), .int .u64 ((b.natAbs / 18446744073709551616 : Nat) : Int), .int .u64 ((b.natAbs % 18446744073709551616 : Nat) : Int)] by unfold wideV; rw [hE]]
    refine this.mono ?_
    rintro e w' ⟨rfl, hw⟩
    refine ⟨congrArg Ending.returned (wide_eq ?_ ?_ ?_), hw⟩
    · rw [decide_eq_decide]; omega
    · omega
    · omega
  · have hE' : b < 0 ↔ ¬ a < 0 := by
      rw [← decide_not, decide_eq_decide] at hE
      exact hE
    rw [show wideV a = .agg #[.bool (decide (a < 0)), .int .u64 ((a.natAbs / 18446744073709551616 : Nat) : Int), .int .u64 ((a.natAbs % 18446744073709551616 : Nat) : Int)] from rfl, show wideV b = .agg #[.bool (!decide (a < 0)), .int .u64 ((b.natAbs / 18446744073709551616 : Nat) : Int), .int .u64 ((b.natAbs % 18446744073709551616 : Nat) : Int)] by unfold wideV; rw [hE]]
    by_cases hm : b.natAbs ≤ a.natAbs
    · refine (rat_plus_more (decide (a < 0)) (a.natAbs / 18446744073709551616) (a.natAbs % 18446744073709551616) (b.natAbs / 18446744073709551616) (b.natAbs % 18446744073709551616) w (by omega) (by omega) (by omega) (by omega) (by omega)).mono ?_
      rintro e w' ⟨H, L, rfl, h1, h2, h3, hw⟩
      refine ⟨congrArg Ending.returned (wide_eq ?_ ?_ ?_), hw⟩
      · rw [Bool.eq_iff_iff]; simp only [decide_eq_true_eq, Bool.and_eq_true]; omega
      · omega
      · omega
    · refine (rat_plus_less (decide (a < 0)) (a.natAbs / 18446744073709551616) (a.natAbs % 18446744073709551616) (b.natAbs / 18446744073709551616) (b.natAbs % 18446744073709551616) w (by omega) (by omega) (by omega) (by omega) (by omega)).mono ?_
      rintro e w' ⟨H, L, rfl, h1, h2, h3, hw⟩
      refine ⟨congrArg Ending.returned (wide_eq ?_ ?_ ?_), hw⟩
      · rw [Bool.eq_iff_iff]; simp only [decide_eq_true_eq, Bool.and_eq_true, Bool.not_eq_true', decide_eq_false_iff_not]; omega
      · omega
      · omega
end Go.Proofs.Ytclainbjidajbaa
