/- The contract of Frame of the program. -/
import Derived.Test.YtclainbjidajbaaCadE2
namespace Go.Proofs.Ytclainbjidajbaa
open Go.RowKit

/-- from a/b, to c/d. -/
def frameF (n a b c d : Int) : Int := n * (c * b) / (d * a)
def frameV (n a b c d : Int) : Value :=
  if usableR a b && usableR c d then (if rangeB n then (if -9223372036854775807 ≤ frameF n a b c d ∧ frameF n a b c d ≤ 9223372036854775807 then .tuple #[.int .i64 (frameF n a b c d), .int .i64 0] else .tuple #[.int .i64 0, .int .i64 2]) else .tuple #[.int .i64 0, .int .i64 2]) else .tuple #[.int .i64 0, .int .i64 1]

theorem usable_mulp {a b c d : Int} (h : usableR a b = true) (h' : usableR c d = true) : (1 ≤ c * b ∧ c * b ≤ 68719476736) ∧ (1 ≤ d * a ∧ d * a ≤ 68719476736) := by
  rw [Int.mul_comm d a]; exact usable_mul h h'

set_option maxHeartbeats 1000000 in
theorem cad_Frame (n a b c d : Int) (w : World) (ha : I64 a) (hb : I64 b) (hc : I64 c) (hd : I64 d)
    (hD : usableR a b = true → usableR c d = true → rangeB n = true → (n * (c * b)).natAbs / 18446744073709551616 < (d * a).toNat → Div64Ok (n * (c * b)).natAbs (d * a).toNat) :
    Calls Try.prog 27 #[.int .i64 n, .agg #[.int .i64 a, .int .i64 b], .agg #[.int .i64 c, .int .i64 d]] w fun e w' => e = .returned (frameV n a b c d) ∧ Below w.heap.size w w' := by
  have u1 := fun w => cad_Usable a b w ha.lo ha.hi hb.lo hb.hi
  have u2 := fun w => cad_Usable c d w hc.lo hc.hi hd.lo hd.hi
  by_cases h1 : usableR a b = true
  · rw [h1] at u1
    have U1 := Lib.hid u1
    by_cases h2 : usableR c d = true
    · rw [h2] at u2
      have U2 := Lib.hid u2
      by_cases h3 : rangeB n = true
      · have r := fun w => cad_inRange n w
        rw [h3] at r
        have R := Lib.hid r
        obtain ⟨⟨m1, m2⟩, m3, m4⟩ := usable_mulp h1 h2
        have hn : -2147483647 ≤ n ∧ n ≤ 2147483647 := by simpa [rangeB] using h3
        have p := fun w => rat_MulDiv n (c * b) (d * a) w (by omega) (by omega) (by omega) (by omega) (by omega) (by omega) (hD h1 h2 h3)
        have ev : frameV n a b c d = (if -9223372036854775807 ≤ frameF n a b c d ∧ frameF n a b c d ≤ 9223372036854775807 then .tuple #[.int .i64 (frameF n a b c d), .int .i64 0] else .tuple #[.int .i64 0, .int .i64 2]) := by
          unfold frameV; rw [h1, h2, if_pos h3]; rfl
        rw [ev]
        have em : mulDivV (n * (c * b)) (d * a) = if fitsB (frameF n a b c d) then .tuple #[.int .i64 (frameF n a b c d), .int .i64 (n * (c * b) % (d * a)), .int .i64 0] else .tuple #[.int .i64 0, .int .i64 0, .int .i64 2] := rfl
        rw [em] at p
        simp only [usableR, decide_eq_true_eq] at h1 h2
        clear ev em u1 u2 r hD h3
        generalize frameF n a b c d = q at *
        generalize n * (c * b) % (d * a) = rest at *
        have fin : ∃ (q' e' : Int), (if fitsB q then (.tuple #[.int .i64 q, .int .i64 rest, .int .i64 0] : Value) else .tuple #[.int .i64 0, .int .i64 0, .int .i64 2]) = .tuple #[.int .i64 q', .int .i64 (if fitsB q then rest else 0), .int .i64 e'] ∧
            (e' = 0 ∧ q' = q ∧ -9223372036854775807 ≤ q ∧ q ≤ 9223372036854775807 ∨ e' = 0 ∧ q' = -9223372036854775808 ∧ q = -9223372036854775808 ∨ e' = 2 ∧ ¬ (-9223372036854775807 ≤ q ∧ q ≤ 9223372036854775807)) := by
          by_cases hf : fitsB q = true
          · refine ⟨q, 0, by rw [if_pos hf, if_pos hf], ?_⟩
            simp only [fitsB, decide_eq_true_eq] at hf
            omega
          · refine ⟨0, 2, by rw [if_neg hf, if_neg hf], ?_⟩
            simp only [fitsB, decide_eq_true_eq] at hf
            omega
        obtain ⟨q', e', e1, e2⟩ := fin
        rw [e1] at p
        clear e1
        have P := Lib.hid p
        clear p
        generalize (if fitsB q then rest else 0) = rest' at *
        rcases e2 with ⟨rfl, rfl, q1, q2⟩ | ⟨rfl, rfl, rfl⟩ | ⟨rfl, hq⟩
        · rw [if_pos ⟨q1, q2⟩]
          have t1 : (q' == -9223372036854775808) = false := by simp; omega
          go_enter Try.func27, Try.ntmps27
          go_wp2_with fail
          refine (U1.out _).mono ?_
          rintro e w1 ⟨rfl, hb1⟩
          obtain ⟨c_w1, z_w1⟩ := bcell hb1
          have s_w1 := hb1.size
          try simp at s_w1
          try simp at c_w1
          try simp at z_w1
          have q_w1_0 : w.heap.size < w1.heap.size := by omega
          have q_w1_1 : w.heap.size + 1 < w1.heap.size := by omega
          go_wp2_with fail
          refine (U2.out _).mono ?_
          rintro e w2 ⟨rfl, hb2⟩
          obtain ⟨c_w2, z_w2⟩ := bcell hb2
          have s_w2 := hb2.size
          try simp at s_w2
          try simp at c_w2
          try simp at z_w2
          have q_w2_0 : w.heap.size < w2.heap.size := by omega
          have q_w2_1 : w.heap.size + 1 < w2.heap.size := by omega
          go_wp2_with fail
          refine (R.out _).mono ?_
          rintro e w2 ⟨rfl, rfl⟩
          go_wp2_with fail
          refine (P.out _).mono ?_
          rintro e w3 ⟨rfl, hb3⟩
          go_wp2_with fail
          go_ret2
          exact ⟨rfl, (((((Below.refl _ w).alloc (Nat.le_refl _) _).alloc (by simp) _).trans (hb1.mono (by simp; omega))).trans (hb2.mono (by omega))).trans (hb3.mono (by omega))⟩
        · rw [if_neg (by omega)]
          go_enter Try.func27, Try.ntmps27
          go_wp2_with fail
          refine (U1.out _).mono ?_
          rintro e w1 ⟨rfl, hb1⟩
          obtain ⟨c_w1, z_w1⟩ := bcell hb1
          have s_w1 := hb1.size
          try simp at s_w1
          try simp at c_w1
          try simp at z_w1
          have q_w1_0 : w.heap.size < w1.heap.size := by omega
          have q_w1_1 : w.heap.size + 1 < w1.heap.size := by omega
          go_wp2_with fail
          refine (U2.out _).mono ?_
          rintro e w2 ⟨rfl, hb2⟩
          obtain ⟨c_w2, z_w2⟩ := bcell hb2
          have s_w2 := hb2.size
          try simp at s_w2
          try simp at c_w2
          try simp at z_w2
          have q_w2_0 : w.heap.size < w2.heap.size := by omega
          have q_w2_1 : w.heap.size + 1 < w2.heap.size := by omega
          go_wp2_with fail
          refine (R.out _).mono ?_
          rintro e w2 ⟨rfl, rfl⟩
          go_wp2_with fail
          refine (P.out _).mono ?_
          rintro e w3 ⟨rfl, hb3⟩
          go_wp2_with fail
          go_ret2
          exact ⟨rfl, (((((Below.refl _ w).alloc (Nat.le_refl _) _).alloc (by simp) _).trans (hb1.mono (by simp; omega))).trans (hb2.mono (by omega))).trans (hb3.mono (by omega))⟩
        · rw [if_neg hq]
          clear hq
          go_enter Try.func27, Try.ntmps27
          go_wp2_with fail
          refine (U1.out _).mono ?_
          rintro e w1 ⟨rfl, hb1⟩
          obtain ⟨c_w1, z_w1⟩ := bcell hb1
          have s_w1 := hb1.size
          try simp at s_w1
          try simp at c_w1
          try simp at z_w1
          have q_w1_0 : w.heap.size < w1.heap.size := by omega
          have q_w1_1 : w.heap.size + 1 < w1.heap.size := by omega
          go_wp2_with fail
          refine (U2.out _).mono ?_
          rintro e w2 ⟨rfl, hb2⟩
          obtain ⟨c_w2, z_w2⟩ := bcell hb2
          have s_w2 := hb2.size
          try simp at s_w2
          try simp at c_w2
          try simp at z_w2
          have q_w2_0 : w.heap.size < w2.heap.size := by omega
          have q_w2_1 : w.heap.size + 1 < w2.heap.size := by omega
          go_wp2_with fail
          refine (R.out _).mono ?_
          rintro e w2 ⟨rfl, rfl⟩
          go_wp2_with fail
          refine (P.out _).mono ?_
          rintro e w3 ⟨rfl, hb3⟩
          go_wp2_with fail
          go_ret2
          exact ⟨rfl, (((((Below.refl _ w).alloc (Nat.le_refl _) _).alloc (by simp) _).trans (hb1.mono (by simp; omega))).trans (hb2.mono (by omega))).trans (hb3.mono (by omega))⟩
      · have h3' : rangeB n = false := by simpa using h3
        have r := fun w => cad_inRange n w
        rw [h3'] at r
        have R := Lib.hid r
        have ev : frameV n a b c d = .tuple #[.int .i64 0, .int .i64 2] := by unfold frameV; rw [h1, h2, if_neg h3]; rfl
        rw [ev]
        clear ev u1 u2 r h1 h2 h3 h3' hD
        go_enter Try.func27, Try.ntmps27
        go_wp2_with fail
        refine (U1.out _).mono ?_
        rintro e w1 ⟨rfl, hb1⟩
        obtain ⟨c_w1, z_w1⟩ := bcell hb1
        have s_w1 := hb1.size
        try simp at s_w1
        try simp at c_w1
        try simp at z_w1
        have q_w1_0 : w.heap.size < w1.heap.size := by omega
        have q_w1_1 : w.heap.size + 1 < w1.heap.size := by omega
        go_wp2_with fail
        refine (U2.out _).mono ?_
        rintro e w2 ⟨rfl, hb2⟩
        go_wp2_with fail
        refine (R.out _).mono ?_
        rintro e w2 ⟨rfl, rfl⟩
        go_wp2_with fail
        go_ret2
        exact ⟨rfl, ((((Below.refl _ w).alloc (Nat.le_refl _) _).alloc (by simp) _).trans (hb1.mono (by simp; omega))).trans (hb2.mono (by omega))⟩
    · have h2' : usableR c d = false := by simpa using h2
      rw [h2'] at u2
      have U2 := Lib.hid u2
      have ev : frameV n a b c d = .tuple #[.int .i64 0, .int .i64 1] := by unfold frameV; rw [h2']; simp
      rw [ev]
      clear u1 u2 h1 h2 h2' ev hD
      go_enter Try.func27, Try.ntmps27
      go_wp2_with fail
      refine (U1.out _).mono ?_
      rintro e w1 ⟨rfl, hb1⟩
      obtain ⟨c_w1, z_w1⟩ := bcell hb1
      have s_w1 := hb1.size
      try simp at s_w1
      try simp at c_w1
      try simp at z_w1
      have q_w1_0 : w.heap.size < w1.heap.size := by omega
      have q_w1_1 : w.heap.size + 1 < w1.heap.size := by omega
      go_wp2_with fail
      refine (U2.out _).mono ?_
      rintro e w2 ⟨rfl, hb2⟩
      go_wp2_with fail
      go_ret2
      exact ⟨rfl, ((((Below.refl _ w).alloc (Nat.le_refl _) _).alloc (by simp) _).trans (hb1.mono (by simp; omega))).trans (hb2.mono (by omega))⟩
  · have h1' : usableR a b = false := by simpa using h1
    rw [h1'] at u1
    have U1 := Lib.hid u1
    have ev : frameV n a b c d = .tuple #[.int .i64 0, .int .i64 1] := by unfold frameV; rw [h1']; simp
    rw [ev]
    clear u1 u2 h1 h1' ev hD
    go_enter Try.func27, Try.ntmps27
    go_wp2_with fail
    refine (U1.out _).mono ?_
    rintro e w1 ⟨rfl, hb1⟩
    go_wp2_with fail
    go_ret2
    exact ⟨rfl, (((Below.refl _ w).alloc (Nat.le_refl _) _).alloc (by simp) _).trans (hb1.mono (by simp; omega))⟩
end Go.Proofs.Ytclainbjidajbaa
