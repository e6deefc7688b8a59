/- PesLong. -/
import Derived.Test.YtojfaonlgkicfaaTicks
namespace Go.Proofs.Ytojfaonlgkicfaa
open Go.RowKit

theorem unwrap_back {a b : Int} (h0 : 0 ≤ a) (h1 : a ≤ b) (h2 : b - a < 4294967296) (h3 : b ≤ 2305843009213693952) : unwrapZ a (b % 8589934592) = b := by
  unfold unwrapZ
  rw [if_neg (by omega)]
  omega
theorem pos_mono {n m N D : Int} (h : n ≤ m) (hN : 0 ≤ N) (hD : 0 < D) (h0 : 0 ≤ n) : 0 ≤ (2 * (n * N) + D) / (2 * D) ∧ (2 * (n * N) + D) / (2 * D) ≤ (2 * (m * N) + D) / (2 * D) := by
  have e1 := Int.mul_nonneg h0 hN
  have e2 := Int.mul_le_mul_of_nonneg_right h hN
  exact ⟨Int.ediv_nonneg (by omega) (by omega), Int.ediv_le_ediv (by omega) (by omega)⟩

set_option maxRecDepth 100000 in
set_option maxHeartbeats 1000000 in
theorem law_PesLong (n s a b : Int) (w : World) (hn : I64 n) (hs : I64 s) (ha : I64 a) (hb : I64 b) :
    Calls Try.prog 9 #[.int .i64 n, .int .i64 s, .agg #[.int .i64 a, .int .i64 b]] w fun e w' => e = .returned (.bool true) ∧ Below w.heap.size w w' := by
  have cv := fun w => r01_Valid a b w ha.lo ha.hi hb.lo hb.hi
  by_cases h : (0 ≤ n ∧ n ≤ 1073741824 ∧ 1 ≤ s ∧ s ≤ 1048576) ∧ validR a b = true ∧ 1 ≤ a ∧ a ≤ 1048576 ∧ b ≤ 65536
  · obtain ⟨⟨n1, n2, s1, s2⟩, hv, a1, a2, b2⟩ := h
    rw [hv] at cv
    have CV := Lib.hid cv
    have b1 : 1 ≤ b := by simp only [validR, decide_eq_true_eq] at hv; omega
    obtain ⟨x, ex, hx, kx, ix, fx⟩ := posV_two n a b 90000 1
    obtain ⟨y, ey, hy, ky, iy, fy⟩ := posV_two (n + s) a b 90000 1
    have p1 := fun w => r01_Position n a b 90000 1 w hn ha hb ⟨by omega, by omega⟩ ⟨by omega, by omega⟩
    have p2 := fun w => r01_Position (n + s) a b 90000 1 w ⟨by omega, by omega⟩ ha hb ⟨by omega, by omega⟩ ⟨by omega, by omega⟩
    rw [hx] at p1
    rw [hy] at p2
    have P1 := Lib.hid p1
    have P2 := Lib.hid p2
    have t := fun w => pes_Ticks (n + s) a b y ey w ⟨by omega, by omega⟩ ha hb hy ky
    have T := Lib.hid t
    have x1 := ix.lo
    have x2 := ix.hi
    have y1 := iy.lo
    have y2 := iy.hi
    have FX := Lib.hid fx
    have FY := Lib.hid fy
    have e1 : decide (n < 0) = false := by simp; omega
    have e2 : decide (1073741824 < n) = false := by simp; omega
    have e3 : decide (s < 1) = false := by simp; omega
    have e4 : decide (1048576 < s) = false := by simp; omega
    have e5 : decide (a < 1) = false := by simp; omega
    have e6 : decide (1048576 < a) = false := by simp; omega
    have e7 : decide (65536 < b) = false := by simp; omega
    clear cv hv hx hy p1 p2 t fx fy kx ix iy
    have KY := Lib.hid ky
    clear ky
    go_enter Try.func9, Try.ntmps9
    go_wp2_with fail
    refine (CV.out _).mono ?_
    rintro e w1 ⟨rfl, hb1⟩
    obtain ⟨c_w1, z_w1⟩ := bcell hb1
    have s_w1 := hb1.size
    try simp at s_w1
    try simp at c_w1
    try simp at z_w1
    have q_w1_0 : w.heap.size < w1.heap.size := by omega
    go_wp2_with fail
    refine (P1.out _).mono ?_
    rintro e w2 ⟨rfl, hb2⟩
    obtain ⟨c_w2, z_w2⟩ := bcell hb2
    have s_w2 := hb2.size
    try simp at s_w2
    try simp at c_w2
    try simp at z_w2
    have q_w2_0 : w.heap.size < w2.heap.size := by omega
    have g2 : w1.heap.size < w2.heap.size := by omega
    go_wp2_with fail
    refine (P2.out _).mono ?_
    rintro e w3 ⟨rfl, hb3⟩
    obtain ⟨c_w3, z_w3⟩ := bcell hb3
    have s_w3 := hb3.size
    try simp at s_w3
    try simp at c_w3
    try simp at z_w3
    have q_w3_0 : w.heap.size < w3.heap.size := by omega
    have B1 : Below w.heap.size w w1 := ((Below.refl _ w).alloc (Nat.le_refl _) _).trans (hb1.mono (by simp))
    have B2 : Below w.heap.size w w2 := (B1.alloc B1.size _).trans (hb2.mono (by have := B1.size; simp; omega))
    have B3 := B2.trans (hb3.mono B2.size)
    have HB3 := Lib.hid B3
    clear B1 B2 B3 hb1 hb2 hb3 P1 P2 CV
    rcases (by omega : ex ≠ 0 ∨ ex = 0 ∧ ey ≠ 0 ∨ ex = 0 ∧ ey = 0) with h1 | ⟨rfl, h1⟩ | ⟨rfl, rfl⟩
    · have t1 : (ex != 0) = true := by simp; exact h1
      go_wp2_with fail
      refine (pes_awake _).mono ?_
      rintro e w4 ⟨rfl, hb4⟩
      go_wp2_with fail
      go_ret
      exact ⟨rfl, HB3.out.trans (hb4.mono HB3.out.size)⟩
    · have t1 : (ey != 0) = true := by simp; exact h1
      go_wp2_with fail
      refine (pes_awake _).mono ?_
      rintro e w4 ⟨rfl, hb4⟩
      go_wp2_with fail
      go_ret
      exact ⟨rfl, HB3.out.trans (hb4.mono HB3.out.size)⟩
    · have fx := FX.out rfl
      have fy := FY.out rfl
      have hm := pos_mono (n := n) (m := n + s) (N := 90000 * b) (D := 1 * a) (by omega) (by omega) (by omega) n1
      rw [← fx, ← fy] at hm
      obtain ⟨m1, m2⟩ := hm
      clear fx fy FX FY
      by_cases h2 : y - x < 4294967296
      · by_cases h3 : y ≤ 2305843009213693952
        · have hu := unwrap_back m1 m2 h2 h3
          have HU := Lib.hid hu
          clear hu
          have d1 : decide (4294967296 ≤ y - x) = false := by simp; omega
          have d2 : decide (2305843009213693952 < y) = false := by simp; omega
          go_wp2_with fail
          refine (T.out _).mono ?_
          rintro e w4 ⟨rfl, hb4⟩
          go_wp2_with fail
          refine (pes_awake _).mono ?_
          rintro e w5 ⟨rfl, hb5⟩
          go_wp2_with fail
          refine (pes_Unwrap _ _ _).mono ?_
          rw [HU.out]
          rintro e w6 ⟨rfl, rfl⟩
          go_wp2_with fail
          go_ret
          refine ⟨rfl, ?_⟩
          have B4 := HB3.out.trans (hb4.mono HB3.out.size)
          exact B4.trans (hb5.mono B4.size)
        · have d1 : decide (4294967296 ≤ y - x) = false := by simp; omega
          go_wp2_with fail
          refine (pes_awake _).mono ?_
          rintro e w4 ⟨rfl, hb4⟩
          go_wp2_with fail
          go_ret
          exact ⟨rfl, HB3.out.trans (hb4.mono HB3.out.size)⟩
      · go_wp2_with fail
        refine (pes_awake _).mono ?_
        rintro e w4 ⟨rfl, hb4⟩
        go_wp2_with fail
        go_ret
        exact ⟨rfl, HB3.out.trans (hb4.mono HB3.out.size)⟩
  · by_cases h1 : 0 ≤ n ∧ n ≤ 1073741824 ∧ 1 ≤ s ∧ s ≤ 1048576
    · have e1 : decide (n < 0) = false := by simp; omega
      have e2 : decide (1073741824 < n) = false := by simp; omega
      have e3 : decide (s < 1) = false := by simp; omega
      have e4 : decide (1048576 < s) = false := by simp; omega
      obtain ⟨B, hB⟩ : ∃ B, validR a b = B := ⟨_, rfl⟩
      rw [hB] at cv
      have CV := Lib.hid cv
      have h' : B = false ∨ a < 1 ∨ 1048576 < a ∨ 65536 < b := by
        rcases Bool.eq_false_or_eq_true B with hb' | hb'
        · right
          rw [hb'] at hB
          rcases (by omega : a < 1 ∨ 1048576 < a ∨ 65536 < b ∨ (1 ≤ a ∧ a ≤ 1048576 ∧ b ≤ 65536)) with h2 | h2 | h2 | h2
          · exact .inl h2
          · exact .inr (.inl h2)
          · exact .inr (.inr h2)
          · exact absurd ⟨h1, hB, h2⟩ h
        · exact .inl hb'
      clear cv h hB
      cases B
      · go_enter Try.func9, Try.ntmps9
        go_wp2_with fail
        refine (CV.out _).mono ?_
        rintro e w1 ⟨rfl, hb1⟩
        have B1 : Below w.heap.size w w1 := ((Below.refl _ w).alloc (Nat.le_refl _) _).trans (hb1.mono (by simp))
        go_wp2_with fail
        refine (pes_awake _).mono ?_
        rintro e w4 ⟨rfl, hb4⟩
        go_wp2_with fail
        go_ret
        exact ⟨rfl, B1.trans (hb4.mono B1.size)⟩
      · have h'' : a < 1 ∨ 1048576 < a ∨ 65536 < b := by simpa using h'
        clear h'
        go_enter Try.func9, Try.ntmps9
        go_wp2_with fail
        refine (CV.out _).mono ?_
        rintro e w1 ⟨rfl, hb1⟩
        obtain ⟨c_w1, z_w1⟩ := bcell hb1
        have s_w1 := hb1.size
        try simp at s_w1
        try simp at c_w1
        try simp at z_w1
        have q_w1_0 : w.heap.size < w1.heap.size := by omega
        have B1 : Below w.heap.size w w1 := ((Below.refl _ w).alloc (Nat.le_refl _) _).trans (hb1.mono (by simp))
        have HB1 := Lib.hid B1
        clear B1
        go_wp2_with (go_at_call 10; ((with_reducible refine (pes_awake _).mono ?_); rintro e w4 ⟨rfl, hb4⟩))
        all_goals first
          | (go_ret
             exact ⟨rfl, HB1.out.trans (hb4.mono HB1.out.size)⟩)
          | (exfalso; omega)
    · clear cv h
      go_enter Try.func9, Try.ntmps9
      go_wp2_with (go_at_call 10; ((with_reducible refine (pes_awake _).mono ?_); rintro e w4 ⟨rfl, hb4⟩))
      all_goals first
        | (go_ret
           exact ⟨rfl, ((Below.refl _ w).alloc (Nat.le_refl _) _).trans (hb4.mono (by simp))⟩)
        | (exfalso; omega)
end Go.Proofs.Ytojfaonlgkicfaa
