/- CadenceHalf. -/
import Derived.Test.YtepadbeijjefiaaCadAwake
namespace Go.Proofs.Ytepadbeijjefiaa
open Go.RowKit

/-- The sample is never more than half a sample away. -/
theorem half_law {n a b : Int} (ha : 0 < a) : 2 * (sampleF n a b * a - n * 48000 * b) ≤ a ∧ -a ≤ 2 * (sampleF n a b * a - n * 48000 * b) := by
  unfold sampleF
  have e := Int.mul_ediv_add_emod (2 * (n * (48000 * b)) + a) (2 * a)
  have g3 := Int.emod_nonneg (2 * (n * (48000 * b)) + a) (show 2 * a ≠ 0 by omega)
  have g4 := Int.emod_lt_of_pos (2 * (n * (48000 * b)) + a) (show 0 < 2 * a by omega)
  have e2 : n * 48000 * b = n * (48000 * b) := Int.mul_assoc _ _ _
  rw [e2]
  generalize n * (48000 * b) = N at *
  generalize (2 * N + a) / (2 * a) = q at *
  have e3 : 2 * a * q = 2 * (q * a) := by rw [Int.mul_assoc, Int.mul_comm a q]
  omega

set_option maxHeartbeats 1000000 in
theorem law_CadenceHalf (n a b : Int) (w : World) (hn : -2147483648 ≤ n ∧ n ≤ 2147483647) (ha : I64 a) (hb : I64 b) :
    Calls Try.prog 7 #[.int .i32 n, .agg #[.int .i64 a, .int .i64 b]] w fun e w' => e = .returned (.bool true) ∧ Below w.heap.size w w' := by
  have c0 := fun w => ref_Usable a b w
  by_cases h1 : usableR a b = true
  · rw [h1] at c0
    have C0 := Lib.hid c0
    by_cases h2 : n = -2147483648
    · subst h2
      clear c0 h1 hn
      go_enter Try.func7, Try.ntmps7
      go_wp2_with fail
      refine (C0.out _).mono ?_
      rintro e w1 ⟨rfl, hb1⟩
      go_wp2_with fail
      refine (cad_awake _).mono ?_
      rintro e w2 ⟨rfl, hb2⟩
      go_wp2_with fail
      go_ret
      refine ⟨rfl, ?_⟩
      have B1 : Below w.heap.size w w1 := ((Below.refl _ w).alloc (Nat.le_refl _) _).trans (hb1.mono (by simp))
      exact B1.trans (hb2.mono B1.size)
    · have t1 : (n == -2147483648) = false := by simp; exact h2
      have hr : rangeB n = true := by simp [rangeB]; omega
      have c1 := fun w => cad_Sample n a b w ⟨by omega, by omega⟩ ha hb
      have ev : sampleV n a b = .tuple #[.int .i64 (sampleF n a b), .int .i64 0] := by unfold sampleV; rw [if_pos h1, if_pos hr]
      rw [ev] at c1
      have C1 := Lib.hid c1
      obtain ⟨k1, k2, k3, k4, k5, k6, k7⟩ := sample_bd h1 hr
      have hh := half_law (n := n) (a := a) (b := b) (by omega)
      have e2 : n * 48000 * b = n * (48000 * b) := Int.mul_assoc _ _ _
      have k8 : -6755399438573568000 ≤ n * 48000 * b ∧ n * 48000 * b ≤ 6755399438573568000 := by rw [e2]; omega
      clear c0 c1 ev h1 hr h2 e2 k1
      generalize sampleF n a b = s at *
      have k9 : n * 48000 ≤ 103079215056000 ∧ -103079215056000 ≤ n * 48000 := by omega
      have k10 : -6755399438573568000 - 1048576 ≤ s * a ∧ s * a ≤ 6755399438573568000 + 1048576 := by omega
      have d1 : decide (-1099511627776 < s * a - n * 48000 * b) = true := by simp; omega
      have d2 : decide (s * a - n * 48000 * b < 1099511627776) = true := by simp; omega
      have d3 : decide (2 * (s * a - n * 48000 * b) ≤ a) = true := by simp; omega
      have d4 : decide (-a ≤ 2 * (s * a - n * 48000 * b)) = true := by simp; omega
      go_enter Try.func7, Try.ntmps7
      go_wp2_with fail
      refine (C0.out _).mono ?_
      rintro e w1 ⟨rfl, hb1⟩
      obtain ⟨c_w1, z_w1⟩ := bcell hb1
      have s_w1 := hb1.size
      try simp at s_w1
      try simp at c_w1
      try simp at z_w1
      have q_w1_0 : w.heap.size < w1.heap.size := by omega
      go_wp2_with fail
      refine (C1.out _).mono ?_
      rintro e w2 ⟨rfl, hb2⟩
      obtain ⟨c_w2, z_w2⟩ := bcell hb2
      have s_w2 := hb2.size
      try simp at s_w2
      try simp at c_w2
      try simp at z_w2
      have q_w2_0 : w.heap.size < w2.heap.size := by omega
      go_wp2_with fail
      refine (cad_awake _).mono ?_
      rintro e w3 ⟨rfl, hb3⟩
      go_wp2_with fail
      go_ret
      refine ⟨rfl, ?_⟩
      have B1 : Below w.heap.size w w1 := ((Below.refl _ w).alloc (Nat.le_refl _) _).trans (hb1.mono (by simp))
      have B2 := B1.trans (hb2.mono B1.size)
      exact B2.trans (hb3.mono B2.size)
  · have h1' : usableR a b = false := by simpa using h1
    rw [h1'] at c0
    have C0 := Lib.hid c0
    clear c0 h1 h1'
    go_enter Try.func7, Try.ntmps7
    go_wp2_with fail
    refine (C0.out _).mono ?_
    rintro e w1 ⟨rfl, hb1⟩
    go_wp2_with fail
    refine (cad_awake _).mono ?_
    rintro e w2 ⟨rfl, hb2⟩
    go_wp2_with fail
    go_ret
    refine ⟨rfl, ?_⟩
    have B1 : Below w.heap.size w w1 := ((Below.refl _ w).alloc (Nat.le_refl _) _).trans (hb1.mono (by simp))
    exact B1.trans (hb2.mono B1.size)
end Go.Proofs.Ytepadbeijjefiaa
