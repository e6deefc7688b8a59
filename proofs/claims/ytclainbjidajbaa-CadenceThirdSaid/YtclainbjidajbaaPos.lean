/- The contract of Position. -/
import Derived.Test.YtclainbjidajbaaWideD
namespace Go.Proofs.Ytclainbjidajbaa
open Go.RowKit

def posV (n a b c d : Int) : Value :=
  if scaleR a b && scaleR c d then
    if fitsB ((2 * (n * (c * b)) + d * a) / (2 * (d * a))) then .tuple #[.int .i64 ((2 * (n * (c * b)) + d * a) / (2 * (d * a))), .int .i64 0] else .tuple #[.int .i64 0, .int .i64 2]
  else .tuple #[.int .i64 0, .int .i64 1]

theorem scale_mul {a b c d : Int} (h : scaleR a b = true) (h' : scaleR c d = true) : 1 ≤ c * b ∧ c * b ≤ 4611686018427387904 ∧ 1 ≤ d * a ∧ d * a ≤ 4611686018427387904 := by
  simp only [scaleR, decide_eq_true_eq] at h h'
  have h1 := mulDiv_lt (x := c) (y := b) (m := 2147483648) (n := 2147483648) (by omega) (by omega) (by omega) (by omega)
  have h2 := mulDiv_lt (x := d) (y := a) (m := 2147483648) (n := 2147483648) (by omega) (by omega) (by omega) (by omega)
  have h3 := Int.mul_pos (show 0 < c by omega) (show 0 < b by omega)
  have h4 := Int.mul_pos (show 0 < d by omega) (show 0 < a by omega)
  omega

theorem wide_open (z : Int) : ∃ (s : Bool) (H L : Nat), wideV z = .agg #[.bool s, .int .u64 (H : Int), .int .u64 (L : Int)] := ⟨_, _, _, rfl⟩

set_option maxHeartbeats 1000000 in
theorem rat_Position (n a b c d : Int) (w : World) (n1 : -9223372036854775808 ≤ n) (n2 : n ≤ 9223372036854775807)
    (a1 : -9223372036854775808 ≤ a) (a2 : a ≤ 9223372036854775807) (b1 : -9223372036854775808 ≤ b) (b2 : b ≤ 9223372036854775807)
    (c1 : -9223372036854775808 ≤ c) (c2 : c ≤ 9223372036854775807) (d1 : -9223372036854775808 ≤ d) (d2 : d ≤ 9223372036854775807)
    (hD : scaleR a b = true → scaleR c d = true → (2 * (n * (c * b)) + d * a).natAbs / 18446744073709551616 < (2 * (d * a)).toNat → Div64Ok (2 * (n * (c * b)) + d * a).natAbs (2 * (d * a)).toNat) :
    Calls Try.prog 45 #[.int .i64 n, .agg #[.int .i64 a, .int .i64 b], .agg #[.int .i64 c, .int .i64 d]] w fun e w' => e = .returned (posV n a b c d) ∧ Below w.heap.size w w' := by
  have s1 := fun w => rat_scale a b w a1 a2 b1 b2
  have s2 := fun w => rat_scale c d w c1 c2 d1 d2
  have S1 := Lib.hid s1
  have S2 := Lib.hid s2
  clear s1 s2
  by_cases h1 : scaleR a b = true
  · by_cases h2 : scaleR c d = true
    · obtain ⟨N1, N2, D1, D2⟩ := scale_mul h1 h2
      have hD := hD h1 h2
      have ev : posV n a b c d = if fitsB ((2 * (n * (c * b)) + d * a) / (2 * (d * a))) then .tuple #[.int .i64 ((2 * (n * (c * b)) + d * a) / (2 * (d * a))), .int .i64 0] else .tuple #[.int .i64 0, .int .i64 2] := by
        unfold posV; rw [h1, h2]; rfl
      rw [ev]
      rw [h1] at S1
      rw [h2] at S2
      clear ev h1 h2
      obtain ⟨N, hN⟩ : ∃ N, c * b = N := ⟨_, rfl⟩
      obtain ⟨D, hDn⟩ : ∃ D : Nat, d * a = (D : Int) := Int.eq_ofNat_of_zero_le (by omega)
      have wN : IntKind.i64.wrap (c * b) = N := by rw [hN]; exact IntWalk.i64_in _ (by omega)
      have wD : IntKind.i64.wrap (d * a) = D := by rw [hDn]; exact IntWalk.i64_in _ (by omega)
      rw [hN, hDn] at hD
      rw [hN, hDn]
      rw [hN] at N1 N2
      rw [hDn] at D1 D2
      clear hN hDn
      obtain ⟨P, hP⟩ : ∃ P, n * N = P := ⟨_, rfl⟩
      have bP : P.natAbs ≤ 42535295865117307932921825928971026432 := by
        rw [← hP, Int.natAbs_mul]
        have := Nat.mul_le_mul (show n.natAbs ≤ 9223372036854775808 by omega) (show N.natAbs ≤ 4611686018427387904 by omega)
        omega
      have c1 := fun w => rat_product n N w n1 n2 (by omega) (by omega)
      rw [hP] at hD c1
      rw [hP]
      clear hP
      have c2 := fun w => rat_plus P P w (by omega) (by omega) (by omega)
      have c3 := fun w => rat_plus (P + P) D w (by omega) (by omega) (by omega)
      have c4 := fun w => rat_divide (P + P + D) (2 * D) w (by omega) (by omega) (by rw [show P + P + (D : Int) = 2 * P + D by omega]; rwa [show (2 * (D : Int)).toNat = 2 * D by omega] at hD)
      rw [show P + P + (D : Int) = 2 * P + D by omega, show ((2 * D : Nat) : Int) = 2 * (D : Int) by omega] at c4
      rw [show P + P + (D : Int) = 2 * P + D by omega] at c3
      clear hD
      obtain ⟨t1, H1, L1, e1⟩ := wide_open P
      obtain ⟨t2, H2, L2, e2⟩ := wide_open (P + P)
      obtain ⟨t3, H3, L3, e3⟩ := wide_open (2 * P + D)
      rw [wide_small D (by omega), e2, e3] at c3
      rw [e1] at c1
      rw [e1, e2] at c2
      rw [e3] at c4
      clear e1 e2 e3 bP
      have wD2 : IntKind.u64.wrap (D : Int) = D := by rw [IntKind.wrap_u64]; omega
      have C1 := Lib.hid c1
      have C2 := Lib.hid c2
      have C3 := Lib.hid c3
      have C4 := Lib.hid c4
      clear c1 c2 c3 c4
      generalize hz : 2 * P + (D : Int) = z at *
      clear hz
      have wD3 : IntKind.u64.wrap (2 * (D : Int)) = 2 * (D : Int) := by rw [IntKind.wrap_u64]; omega
      have hcase : ∃ (q r er : Int) (fl : Bool), (fl = true ∧ er = 0 ∨ fl = false ∧ er = 2 ∧ q = 0) ∧ divV z (2 * (D : Int)) = .tuple #[.int .i64 q, .int .u64 r, .bool fl] ∧ (if fitsB (z / (2 * (D : Int))) then (.tuple #[.int .i64 (z / (2 * (D : Int))), .int .i64 0] : Value) else .tuple #[.int .i64 0, .int .i64 2]) = .tuple #[.int .i64 q, .int .i64 er] := by
        by_cases hf : fitsB (z / (2 * (D : Int))) = true
        · exact ⟨_, _, 0, true, .inl ⟨rfl, rfl⟩, by unfold divV; rw [if_pos hf], by rw [if_pos hf]⟩
        · exact ⟨0, 0, 2, false, .inr ⟨rfl, rfl, rfl⟩, by unfold divV; rw [if_neg hf], by rw [if_neg hf]⟩
      obtain ⟨q, r, er, fl, hfl, e5, e6⟩ := hcase
      rw [e6]
      rw [e5] at C4
      clear e5 e6
      rcases hfl with ⟨rfl, rfl⟩ | ⟨rfl, rfl, rfl⟩
      all_goals
        go_enter Try.func45, Try.ntmps45
        go_wp2_with fail
        refine (S1.out _).mono ?_
        rintro e w1 ⟨rfl, hb1⟩
        obtain ⟨c_w1, z_w1⟩ := bcell hb1
        have s_w1 := hb1.size
        try simp at s_w1
        try simp at c_w1
        try simp at z_w1
        have q_w1_0 : w.heap.size < w1.heap.size := by omega
        have q_w1_1 : w.heap.size + 1 < w1.heap.size := by omega
        go_wp2_with fail
        refine (S2.out _).mono ?_
        rintro e w2 ⟨rfl, hb2⟩
        obtain ⟨c_w2, z_w2⟩ := bcell hb2
        have s_w2 := hb2.size
        try simp at s_w2
        try simp at c_w2
        try simp at z_w2
        have q_w2_0 : w.heap.size < w2.heap.size := by omega
        have q_w2_1 : w.heap.size + 1 < w2.heap.size := by omega
        go_wp2_with fail
        go_quiet (fail)
        clear wN wD
        go_wp2_with fail
        refine (C1.out _).mono ?_
        rintro e w3 ⟨rfl, hb3⟩
        go_wp2_with fail
        refine (C1.out _).mono ?_
        rintro e w4 ⟨rfl, hb4⟩
        go_wp2_with fail
        refine (C2.out _).mono ?_
        rintro e w5 ⟨rfl, hb5⟩
        go_wp2_with fail
        refine (C3.out _).mono ?_
        rintro e w6 ⟨rfl, hb6⟩
        have B2 : Below w.heap.size w w2 := ((((Below.refl _ w).alloc (Nat.le_refl _) _).alloc (by simp) _).trans (hb1.mono (by simp; omega))).trans (hb2.mono (by omega))
        have B3 : Below w.heap.size w w3 := (below_drewN B2 _).trans (hb3.mono B2.size)
        have B4 := B3.trans (hb4.mono B3.size)
        have B5 := B4.trans (hb5.mono B4.size)
        have B6 : Below w.heap.size w w6 := (B5.alloc B5.size _).trans (hb6.mono (by have := B5.size; simp; omega))
        have HB6 := Lib.hid B6
        clear B2 B3 B4 B5 B6 hb1 hb2 hb3 hb4 hb5 hb6 C1 C2 C3
        go_wp2_with fail
        refine (C4.out _).mono ?_
        rintro e w7 ⟨rfl, hb7⟩
        go_wp2_with fail
        go_ret2
        exact ⟨rfl, HB6.out.trans (hb7.mono HB6.out.size)⟩
    · have h2' : scaleR c d = false := by simpa using h2
      have ev : posV n a b c d = .tuple #[.int .i64 0, .int .i64 1] := by unfold posV; rw [h1, h2']; rfl
      rw [ev]
      rw [h1] at S1
      rw [h2'] at S2
      clear ev h1 h2 h2' hD
      go_enter Try.func45, Try.ntmps45
      go_wp2_with fail
      refine (S1.out _).mono ?_
      rintro e w1 ⟨rfl, hb1⟩
      obtain ⟨c_w1, z_w1⟩ := bcell hb1
      have s_w1 := hb1.size
      try simp at s_w1
      try simp at c_w1
      try simp at z_w1
      have q_w1_0 : w.heap.size < w1.heap.size := by omega
      have q_w1_1 : w.heap.size + 1 < w1.heap.size := by omega
      go_wp2_with fail
      refine (S2.out _).mono ?_
      rintro e w2 ⟨rfl, hb2⟩
      go_wp2_with fail
      go_ret2
      exact ⟨rfl, ((((Below.refl _ w).alloc (Nat.le_refl _) _).alloc (by simp) _).trans (hb1.mono (by simp; omega))).trans (hb2.mono (by omega))⟩
  · have h1' : scaleR a b = false := by simpa using h1
    have ev : posV n a b c d = .tuple #[.int .i64 0, .int .i64 1] := by unfold posV; rw [h1']; rfl
    rw [ev]
    rw [h1'] at S1
    clear ev h1 h1' hD
    go_enter Try.func45, Try.ntmps45
    go_wp2_with fail
    refine (S1.out _).mono ?_
    rintro e w1 ⟨rfl, hb1⟩
    go_wp2_with fail
    go_ret2
    exact ⟨rfl, (((Below.refl _ w).alloc (Nat.le_refl _) _).alloc (by simp) _).trans (hb1.mono (by simp; omega))⟩
end Go.Proofs.Ytclainbjidajbaa
