/- The contracts of Sample: the program's and the reference's. -/
import Derived.Test.YtclainbjidajbaaCadA
namespace Go.Proofs.Ytclainbjidajbaa
open Go.RowKit

def sampleF (n a b : Int) : Int := (2 * (n * (48000 * b)) + a) / (2 * a)
def sampleV (n a b : Int) : Value := if usableR a b then (if rangeB n then .tuple #[.int .i64 (sampleF n a b), .int .i64 0] else .tuple #[.int .i64 0, .int .i64 2]) else .tuple #[.int .i64 0, .int .i64 1]

/-- What a usable rate and a number in range give: the bounds of what Sample computes with. -/
theorem sample_bd {n a b : Int} (h : usableR a b = true) (hn : rangeB n = true) :
    (n * (48000 * b)).natAbs ≤ 6755399438573568000 ∧ (1 ≤ a ∧ a ≤ 1048576 ∧ 1 ≤ b ∧ b ≤ 65536 ∧ -2147483647 ≤ n ∧ n ≤ 2147483647) := by
  simp only [usableR, rangeB, decide_eq_true_eq] at h hn
  refine ⟨?_, by omega⟩
  rw [Int.natAbs_mul]
  have := Nat.mul_le_mul (show n.natAbs ≤ 2147483647 by omega) (show (48000 * b).natAbs ≤ 3145728000 by omega)
  omega

theorem half_round (N a : Int) (ha : 0 < a) : (2 * N + a) / (2 * a) = N / a + if 2 * (N % a) ≥ a then 1 else 0 := by
  have e := Int.mul_ediv_add_emod N a
  have g3 := Int.emod_nonneg N (show a ≠ 0 by omega)
  have g4 := Int.emod_lt_of_pos N ha
  generalize N / a = q at *
  generalize N % a = r at *
  split
  · refine ((Int.ediv_emod_unique (r := 2 * r - a) (by omega)).2 ⟨?_, by omega, by omega⟩).1
    rw [Int.mul_add, Int.mul_assoc, ← e]; omega
  · refine ((Int.ediv_emod_unique (r := 2 * r + a) (by omega)).2 ⟨?_, by omega, by omega⟩).1
    rw [Int.mul_add, Int.mul_assoc, ← e]; omega

theorem sample_fits {n a b : Int} (h : usableR a b = true) (hn : rangeB n = true) : -6755399438573568001 ≤ sampleF n a b ∧ sampleF n a b ≤ 6755399438573568001 := by
  obtain ⟨h1, h2⟩ := sample_bd h hn
  unfold sampleF
  rw [half_round _ _ (by omega)]
  generalize n * (48000 * b) = N at h1 ⊢
  have := Int.ediv_le_self (a := N) a
  have b1 : N / a ≤ 6755399438573568000 := by
    apply Int.ediv_le_of_le_mul (by omega)
    have := Int.mul_le_mul_of_nonneg_left (show 1 ≤ a by omega) (show (0 : Int) ≤ 6755399438573568000 by omega)
    omega
  have b2 : -6755399438573568000 ≤ N / a := by
    apply Int.le_ediv_of_mul_le (by omega)
    have := Int.mul_le_mul_of_nonneg_left (show 1 ≤ a by omega) (show (0 : Int) ≤ 6755399438573568000 by omega)
    omega
  split <;> omega

theorem posV_sample {n a b : Int} (h : usableR a b = true) (hn : rangeB n = true) : posV n a b 48000 1 = .tuple #[.int .i64 (sampleF n a b), .int .i64 0] := by
  have hs := scale_of_usable h
  have hs2 : scaleR 48000 1 = true := by decide
  have hf := sample_fits h hn
  unfold posV
  rw [hs, hs2, Int.one_mul]
  unfold sampleF at *
  rw [show (true && true) = true from rfl, if_pos rfl, if_pos (by simp only [fitsB, decide_eq_true_eq]; omega)]

set_option maxHeartbeats 1000000 in
theorem cad_Sample (n a b : Int) (w : World) (hn : I64 n) (ha : I64 a) (hb : I64 b) :
    Calls Try.prog 28 #[.int .i64 n, .agg #[.int .i64 a, .int .i64 b]] w fun e w' => e = .returned (sampleV n a b) ∧ Below w.heap.size w w' := by
  have u := fun w => cad_Usable a b w ha.lo ha.hi hb.lo hb.hi
  unfold sampleV
  by_cases h1 : usableR a b = true
  · rw [h1] at u
    rw [if_pos h1]
    have U := Lib.hid u
    clear u
    by_cases h2 : rangeB n = true
    · have r := fun w => cad_inRange n w
      rw [h2] at r
      rw [if_pos h2]
      have R := Lib.hid r
      obtain ⟨k1, k2⟩ := sample_bd h1 h2
      have p := fun w => rat_Position n a b 48000 1 w hn.lo hn.hi ha.lo ha.hi hb.lo hb.hi (by omega) (by omega) (by omega) (by omega) (fun _ _ _ => div64_low (by omega) (by omega) (by omega))
      rw [posV_sample h1 h2] at p
      have P := Lib.hid p
      clear r p h1 h2 k1
      go_enter Try.func28, Try.ntmps28
      go_wp2_with fail
      refine (U.out _).mono ?_
      rintro e w1 ⟨rfl, hb1⟩
      obtain ⟨c_w1, z_w1⟩ := bcell hb1
      have s_w1 := hb1.size
      try simp at s_w1
      try simp at c_w1
      try simp at z_w1
      have q_w1_0 : w.heap.size < w1.heap.size := by omega
      go_wp2_with fail
      refine (R.out _).mono ?_
      rintro e w1 ⟨rfl, rfl⟩
      go_wp2_with fail
      refine (P.out _).mono ?_
      rintro e w2 ⟨rfl, hb2⟩
      go_wp2_with fail
      go_ret2
      exact ⟨rfl, (((Below.refl _ w).alloc (Nat.le_refl _) _).trans (hb1.mono (by simp))).trans (hb2.mono (by omega))⟩
    · have h2' : rangeB n = false := by simpa using h2
      have r := fun w => cad_inRange n w
      rw [h2'] at r
      rw [if_neg h2]
      have R := Lib.hid r
      clear r h1 h2 h2'
      go_enter Try.func28, Try.ntmps28
      go_wp2_with fail
      refine (U.out _).mono ?_
      rintro e w1 ⟨rfl, hb1⟩
      obtain ⟨c_w1, z_w1⟩ := bcell hb1
      have s_w1 := hb1.size
      try simp at s_w1
      try simp at c_w1
      try simp at z_w1
      have q_w1_0 : w.heap.size < w1.heap.size := by omega
      go_wp2_with fail
      refine (R.out _).mono ?_
      rintro e w1 ⟨rfl, rfl⟩
      go_wp2_with fail
      go_ret2
      exact ⟨rfl, ((Below.refl _ w).alloc (Nat.le_refl _) _).trans (hb1.mono (by simp))⟩
  · have h1' : usableR a b = false := by simpa using h1
    rw [h1'] at u
    rw [if_neg h1]
    have U := Lib.hid u
    clear u h1 h1'
    go_enter Try.func28, Try.ntmps28
    go_wp2_with fail
    refine (U.out _).mono ?_
    rintro e w1 ⟨rfl, hb1⟩
    go_wp2_with fail
    go_ret2
    exact ⟨rfl, ((Below.refl _ w).alloc (Nat.le_refl _) _).trans (hb1.mono (by simp))⟩

end Go.Proofs.Ytclainbjidajbaa
