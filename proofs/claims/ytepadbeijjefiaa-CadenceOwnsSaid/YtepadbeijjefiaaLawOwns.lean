/- CadenceOwns. -/
import Derived.Test.YtepadbeijjefiaaCadAwake
namespace Go.Proofs.Ytepadbeijjefiaa
open Go.RowKit

theorem ownerV_two (n a b : Int) : ∃ x y : Int, ownerV n a b = .tuple #[.int .i64 x, .int .i64 y] ∧ (y = 0 → usableR a b = true ∧ x = ownerF n a b) := by
  unfold ownerV
  split
  · rename_i h
    split
    · exact ⟨_, _, rfl, fun _ => ⟨h, rfl⟩⟩
    · exact ⟨_, _, rfl, fun h => by omega⟩
  · exact ⟨_, _, rfl, fun h => by omega⟩

/-- The sample of the owner is at or before s, that of the next frame behind it. -/
theorem owns_law {s a b : Int} (ha : 0 < a) (hb : 0 < b) : sampleF (ownerF s a b) a b ≤ s ∧ s < sampleF (ownerF s a b + 1) a b := by
  unfold ownerF sampleF
  have hY : 1 ≤ 96000 * b := by omega
  obtain ⟨h1, h2⟩ := owner_F (X := (2 * s + 1) * a) hY
  generalize ((2 * s + 1) * a - 1) / (96000 * b) = q at *
  have e1 : q * (96000 * b) = 2 * (q * (48000 * b)) := by rw [show 96000 * b = 2 * (48000 * b) by omega, ← Int.mul_assoc, Int.mul_comm q 2, Int.mul_assoc]
  have e2 : (q + 1) * (96000 * b) = 2 * ((q + 1) * (48000 * b)) := by rw [show 96000 * b = 2 * (48000 * b) by omega, ← Int.mul_assoc, Int.mul_comm (q + 1) 2, Int.mul_assoc]
  rw [e1] at h1
  rw [e2] at h2
  have e3 : (2 * s + 1) * a = s * (2 * a) + a := by rw [Int.add_mul, Int.mul_comm 2 s, Int.mul_assoc, Int.one_mul]
  constructor
  · apply Int.le_of_lt_add_one
    apply Int.ediv_lt_of_lt_mul (by omega)
    rw [Int.add_mul]
    omega
  · apply Int.lt_of_lt_of_le (Int.lt_add_one_of_le (Int.le_refl s))
    apply Int.le_ediv_of_mul_le (by omega)
    rw [Int.add_mul]
    omega

set_option maxHeartbeats 1000000 in
theorem law_CadenceOwns (s a b : Int) (w : World) (ha : I64 a) (hb : I64 b) :
    Calls Try.prog 9 #[.int .i64 s, .agg #[.int .i64 a, .int .i64 b]] w fun e w' => e = .returned (.bool true) ∧ Below w.heap.size w w' := by
  have c0 := fun w => cad_Owner s a b w ha hb
  obtain ⟨n, e0, hv, hok⟩ := ownerV_two s a b
  rw [hv] at c0
  have C0 := Lib.hid c0
  have HOK := Lib.hid hok
  clear c0 hv hok
  by_cases h : e0 = 0 ∧ -2147483648 < n ∧ n < 2147483647
  · obtain ⟨rfl, n1, n2⟩ := h
    obtain ⟨hu, hn⟩ := HOK.out rfl
    have r1 : rangeB n = true := by simp [rangeB]; omega
    have r2 : rangeB (n + 1) = true := by simp [rangeB]; omega
    have c1 := fun w => cad_Sample n a b w ⟨by omega, by omega⟩ ha hb
    have c2 := fun w => cad_Sample (n + 1) a b w ⟨by omega, by omega⟩ ha hb
    rw [show sampleV n a b = .tuple #[.int .i64 (sampleF n a b), .int .i64 0] by unfold sampleV; rw [if_pos hu, if_pos r1]] at c1
    rw [show sampleV (n + 1) a b = .tuple #[.int .i64 (sampleF (n + 1) a b), .int .i64 0] by unfold sampleV; rw [if_pos hu, if_pos r2]] at c2
    have C1 := Lib.hid c1
    have C2 := Lib.hid c2
    simp only [usableR, decide_eq_true_eq] at hu
    obtain ⟨k1, k2⟩ := owns_law (s := s) (a := a) (b := b) (by omega) (by omega)
    rw [← hn] at k1 k2
    clear c1 c2 hn r1 r2 hu HOK
    generalize sampleF n a b = x at *
    generalize sampleF (n + 1) a b = y at *
    have d1 : decide (n ≤ -2147483648) = false := by simp; omega
    have d2 : decide (2147483647 ≤ n) = false := by simp; omega
    have d3 : decide (x ≤ s) = true := by simp; omega
    have d4 : decide (s < y) = true := by simp; omega
    go_enter Try.func9, Try.ntmps9
    go_wp2_with fail
    refine (C0.out _).mono ?_
    rintro e w1 ⟨rfl, hb1⟩
    obtain ⟨c_w1, z_w1⟩ := bcell hb1
    have s_w1 := hb1.size
    try simp at s_w1
    try simp at c_w1
    try simp at z_w1
    have q_w1_0 : w.heap.size < w1.heap.size := by omega
    go_wp2_with fail
    refine (C1.out _).mono ?_
    rintro e w2 ⟨rfl, hb2⟩
    obtain ⟨c_w2, z_w2⟩ := bcell hb2
    have s_w2 := hb2.size
    try simp at s_w2
    try simp at c_w2
    try simp at z_w2
    have q_w2_0 : w.heap.size < w2.heap.size := by omega
    go_wp2_with fail
    refine (C2.out _).mono ?_
    rintro e w3 ⟨rfl, hb3⟩
    go_wp2_with fail
    refine (cad_awake _).mono ?_
    rintro e w4 ⟨rfl, hb4⟩
    go_wp2_with fail
    go_ret
    refine ⟨rfl, ?_⟩
    have B1 : Below w.heap.size w w1 := ((Below.refl _ w).alloc (Nat.le_refl _) _).trans (hb1.mono (by simp))
    have B2 := B1.trans (hb2.mono B1.size)
    have B3 := B2.trans (hb3.mono B2.size)
    exact B3.trans (hb4.mono B3.size)
  · clear HOK
    rcases (by omega : e0 ≠ 0 ∨ e0 = 0 ∧ n ≤ -2147483648 ∨ e0 = 0 ∧ 2147483647 ≤ n) with h' | ⟨rfl, h'⟩ | ⟨rfl, h'⟩
    · have t1 : (e0 != 0) = true := by simp; exact h'
      clear h
      go_enter Try.func9, Try.ntmps9
      go_wp2_with fail
      refine (C0.out _).mono ?_
      rintro e w1 ⟨rfl, hb1⟩
      go_wp2_with fail
      refine (cad_awake _).mono ?_
      rintro e w2 ⟨rfl, hb2⟩
      go_wp2_with fail
      go_ret
      refine ⟨rfl, ?_⟩
      have B1 : Below w.heap.size w w1 := ((Below.refl _ w).alloc (Nat.le_refl _) _).trans (hb1.mono (by simp))
      exact B1.trans (hb2.mono B1.size)
    · clear h
      go_enter Try.func9, Try.ntmps9
      go_wp2_with fail
      refine (C0.out _).mono ?_
      rintro e w1 ⟨rfl, hb1⟩
      go_wp2_with fail
      refine (cad_awake _).mono ?_
      rintro e w2 ⟨rfl, hb2⟩
      go_wp2_with fail
      go_ret
      refine ⟨rfl, ?_⟩
      have B1 : Below w.heap.size w w1 := ((Below.refl _ w).alloc (Nat.le_refl _) _).trans (hb1.mono (by simp))
      exact B1.trans (hb2.mono B1.size)
    · clear h
      have d1 : decide (n ≤ -2147483648) = false := by simp; omega
      go_enter Try.func9, Try.ntmps9
      go_wp2_with fail
      refine (C0.out _).mono ?_
      rintro e w1 ⟨rfl, hb1⟩
      go_wp2_with fail
      refine (cad_awake _).mono ?_
      rintro e w2 ⟨rfl, hb2⟩
      go_wp2_with fail
      go_ret
      refine ⟨rfl, ?_⟩
      have B1 : Below w.heap.size w w1 := ((Below.refl _ w).alloc (Nat.le_refl _) _).trans (hb1.mono (by simp))
      exact B1.trans (hb2.mono B1.size)
end Go.Proofs.Ytepadbeijjefiaa
