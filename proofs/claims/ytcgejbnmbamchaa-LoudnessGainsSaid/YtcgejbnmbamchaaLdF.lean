/- loudness.atMost, sort.Search with a function that only reads. -/
import Derived.Test.YtcgejbnmbamchaaLdMe
import Derived.Test.YtcgejbnmbamchaaLdK
import Derived.Test.YtcgejbnmbamchaaMul64
namespace Go.Proofs.Ytcgejbnmbamchaa
open Go.RowKit

set_option maxRecDepth 100000 in
set_option maxHeartbeats 2000000 in
theorem ld_atMost (a b c d : Nat) (w : World) (ha : a ≤ 9223372036854775807) (hb : b ≤ 9223372036854775807) (hc : c ≤ 9223372036854775807) (hd : d ≤ 9223372036854775807) :
    Calls Try.prog 39 #[.int .i64 (a : Int), .int .i64 (b : Int), .int .i64 (c : Int), .int .i64 (d : Int)] w fun e w' => e = .returned (.bool (decide (a * b ≤ c * d))) ∧ ∃ m, w' = w.drewN m := by
  have m1 := fun w => bits_Mul64 a b (by omega) (by omega) w
  have m2 := fun w => bits_Mul64 c d (by omega) (by omega) w
  obtain ⟨x, hx⟩ : ∃ x, x = a * b := ⟨_, rfl⟩
  obtain ⟨y, hy⟩ : ∃ y, y = c * d := ⟨_, rfl⟩
  rw [← hx] at m1 ⊢
  rw [← hy] at m2 ⊢
  have hw := wide_le x y
  obtain ⟨h1, hh1⟩ : ∃ h1, h1 = x / 18446744073709551616 := ⟨_, rfl⟩
  obtain ⟨l1, hl1⟩ : ∃ l1, l1 = x % 18446744073709551616 := ⟨_, rfl⟩
  obtain ⟨h2, hh2⟩ : ∃ h2, h2 = y / 18446744073709551616 := ⟨_, rfl⟩
  obtain ⟨l2, hl2⟩ : ∃ l2, l2 = y % 18446744073709551616 := ⟨_, rfl⟩
  rw [← hh1, ← hl1] at m1
  rw [← hh2, ← hl2] at m2
  rw [← hh1, ← hl1, ← hh2, ← hl2] at hw
  have HW := Lib.hid hw
  have M1 := Lib.hid m1
  have M2 := Lib.hid m2
  clear hw m1 m2 hx hy hh1 hl1 hh2 hl2
  go_enter Try.func39, Try.ntmps39
  go_wp2_with fail
  refine (M1.out _).mono ?_
  rintro e w1 ⟨rfl, rfl⟩
  go_wp2_with fail
  refine (M2.out _).mono ?_
  rintro e w1 ⟨rfl, rfl⟩
  rcases Nat.lt_trichotomy h1 h2 with k | k | k
  · have K : Hid (decide (x ≤ y) = true) := Lib.hid (decide_eq_true (HW.out.1 (.inl k)))
    go_wp2_with fail
    all_goals
      go_ret
      exact ⟨ret_bool K.out.symm, 0, rfl⟩
  · subst k
    have K : Hid (decide (x ≤ y) = decide (l1 ≤ l2)) := Lib.hid (by
      rw [Bool.eq_iff_iff, decide_eq_true_eq, decide_eq_true_eq, ← HW.out]
      exact ⟨fun h => h.elim (fun h => absurd h (Nat.lt_irrefl _)) (fun h => h.2), fun h => .inr ⟨rfl, h⟩⟩)
    go_wp2_with fail
    all_goals
      go_ret
      exact ⟨ret_bool K.out.symm, 0, rfl⟩
  · have k1 : ¬ h1 < h2 := by omega
    have k2 : ¬ h1 = h2 := by omega
    have K : Hid (decide (x ≤ y) = false) := Lib.hid (decide_eq_false (fun h => (HW.out.2 h).elim (fun h => k1 h) (fun h => k2 h.1)))
    go_wp2_with fail
    all_goals
      go_ret
      exact ⟨ret_bool K.out.symm, 0, rfl⟩
end Go.Proofs.Ytcgejbnmbamchaa
