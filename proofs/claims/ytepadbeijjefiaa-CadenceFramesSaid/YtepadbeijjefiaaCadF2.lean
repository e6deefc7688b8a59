/- The contract of Frame of the reference. -/
import Derived.Test.YtepadbeijjefiaaCadF
namespace Go.Proofs.Ytepadbeijjefiaa
open Go.RowKit

theorem frame_parts {m num den : Int} (hd : 0 < den) : m * num / den = m * (num / den) + m * (num % den) / den ∧ m * num % den = m * (num % den) % den := by
  have e : m * num = m * (num % den) + m * (num / den) * den := by
    have := Int.mul_ediv_add_emod num den
    conv => lhs; rw [← this, Int.mul_add, Int.mul_comm den, ← Int.mul_assoc]
    omega
  rw [e, Int.add_mul_ediv_right _ _ (by omega), Int.add_mul_emod_self_right]
  exact ⟨by omega, rfl⟩

theorem frame_big {m wh : Int} (hw : 0 < wh) (h : 9223372036854775807 / wh < m) : 9223372036854775807 < m * wh := by
  have := Int.lt_mul_of_ediv_lt hw h
  omega
theorem frame_small {m wh : Int} (hw : 0 < wh) (h : ¬ 9223372036854775807 / wh < m) : m * wh ≤ 9223372036854775807 := by
  have h1 : m ≤ 9223372036854775807 / wh := by omega
  exact (Int.le_ediv_iff_mul_le hw).1 h1

theorem frame_val {n m a b c d N D wh q0 r0 : Int} (hm : m = max n (-n)) (hN : c * b = N) (hD : d * a = D) (hd : 1 ≤ D) (hw : N / D = wh) (hq : m * (N % D) / D = q0) (hr : m * (N % D) % D = r0) :
    (0 ≤ n ∧ frameF n a b c d = m * wh + q0) ∨ (n < 0 ∧ r0 = 0 ∧ frameF n a b c d = -(m * wh + q0)) ∨ (n < 0 ∧ 0 < r0 ∧ frameF n a b c d = -(m * wh + q0) - 1) := by
  obtain ⟨e1, e2⟩ := frame_parts (m := m) (num := N) (den := D) (by omega)
  rw [hw, hq] at e1
  rw [hr] at e2
  unfold frameF
  rw [hN, hD]
  rcases (by omega : 0 ≤ n ∧ m = n ∨ n < 0 ∧ n = -m) with ⟨h, h'⟩ | ⟨h, h'⟩
  · rw [h'] at e1 e2
    exact .inl ⟨h, by rw [h']; exact e1⟩
  · rcases split_neg e1 e2 (by omega) with ⟨h1, h2, _⟩ | ⟨h1, h2, _⟩
    · exact .inr (.inl ⟨h, h1, by rw [h']; exact h2⟩)
    · exact .inr (.inr ⟨h, h1, by rw [h']; exact h2⟩)

theorem frameV_in {n a b c d : Int} (h1 : usableR a b = true) (h2 : usableR c d = true) (h3 : rangeB n = true) :
    (-9223372036854775807 ≤ frameF n a b c d → frameF n a b c d ≤ 9223372036854775807 → frameV n a b c d = .tuple #[.int .i64 (frameF n a b c d), .int .i64 0]) ∧
    (frameF n a b c d < -9223372036854775807 ∨ 9223372036854775807 < frameF n a b c d → frameV n a b c d = .tuple #[.int .i64 0, .int .i64 2]) := by
  constructor
  · intro h h'; unfold frameV; rw [h1, h2, if_pos (show (true && true) = true from rfl), if_pos h3, if_pos ⟨h, h'⟩]
  · intro h; unfold frameV; rw [h1, h2, if_pos (show (true && true) = true from rfl), if_pos h3, if_neg (by omega)]

set_option maxHeartbeats 2000000 in
theorem ref_Frame_in (n a b c d : Int) (w : World) (h1 : usableR a b = true) (h2 : usableR c d = true) (h3 : rangeB n = true) :
    Calls Try.prog 18 #[.int .i64 n, .agg #[.int .i64 a, .int .i64 b], .agg #[.int .i64 c, .int .i64 d]] w fun e w' => e = .returned (frameV n a b c d) ∧ Below w.heap.size w w' := by
  have u1 := fun w => ref_Usable a b w
  have u2 := fun w => ref_Usable c d w
  have r := fun w => ref_InRange n w
  rw [h1] at u1
  rw [h2] at u2
  rw [h3] at r
  obtain ⟨⟨m1, m2⟩, m3, m4⟩ := usable_mulp h1 h2
  have hn : -2147483647 ≤ n ∧ n ≤ 2147483647 := by simpa [rangeB] using h3
  obtain ⟨fin, fin2⟩ := frameV_in h1 h2 h3
  obtain ⟨N, hN⟩ : ∃ N, c * b = N := ⟨_, rfl⟩
  obtain ⟨D, hD⟩ : ∃ D, d * a = D := ⟨_, rfl⟩
  rw [hN] at m1 m2
  rw [hD] at m3 m4
  obtain ⟨m, hm⟩ : ∃ m, max n (-n) = m := ⟨_, rfl⟩
  have mb : 0 ≤ m ∧ m ≤ 2147483647 := by omega
  have g1 := Int.ediv_nonneg (show 0 ≤ N by omega) (show 0 ≤ D by omega)
  have g2 := Int.ediv_le_self D (show 0 ≤ N by omega)
  have g3 := Int.emod_nonneg N (show D ≠ 0 by omega)
  have g4 := Int.emod_lt_of_pos N (show 0 < D by omega)
  have k1 := mulDiv_lt (x := m) (y := N % D) (m := m) (n := D) mb.1 (Int.le_refl _) g3 (by omega)
  have k2 : m * (N % D) / D ≤ m := Int.ediv_le_of_le_mul (by omega) k1.2
  have k3 := Int.ediv_nonneg k1.1 (show 0 ≤ D by omega)
  have k4 := Int.emod_nonneg (m * (N % D)) (show D ≠ 0 by omega)
  have p := fun w => ref_Split m (N % D) D w (by omega) (by omega) (by omega) (by omega) (by omega) (by omega) (by rw [show ((m.natAbs : Nat) : Int) = m by omega]; omega)
  obtain ⟨wh, hw⟩ : ∃ x, N / D = x := ⟨_, rfl⟩
  obtain ⟨q0, hq⟩ : ∃ x, m * (N % D) / D = x := ⟨_, rfl⟩
  obtain ⟨r0, hr⟩ : ∃ x, m * (N % D) % D = x := ⟨_, rfl⟩
  have val := frame_val hm.symm hN hD m3 hw hq hr
  rw [hq, hr] at p
  rw [hw] at g1 g2
  rw [hq] at k2 k3
  rw [hr] at k4
  obtain ⟨rem, hrem⟩ : ∃ x, N % D = x := ⟨_, rfl⟩
  have f2 : N.tmod D = rem := by rw [Int.tmod_eq_emod_of_nonneg (by omega), hrem]
  rw [hrem] at p
  have wN : IntKind.i64.wrap (c * b) = N := by rw [hN]; exact IntWalk.i64_in _ (by omega)
  have wD : IntKind.i64.wrap (d * a) = D := by rw [hD]; exact IntWalk.i64_in _ (by omega)
  have wn : IntKind.i64.wrap (-n) = -n := IntWalk.i64_in _ (by omega)
  have hmx : ∀ (w : World) (ts : Array TypeId) (t : TypeId), (Builtin.max_ ts t #[.int .i64 n, .int .i64 (-n)]).run Try.prog w = .ok (.int .i64 m) w := by
    intro w ts t; rw [run_max_mm, hm]
  have mwh := mulDiv_lt (x := m) (y := wh) (m := 2147483647) (n := 68719476736) mb.1 mb.2 g1 (by omega)
  have P := Lib.hid p
  have U1 := Lib.hid u1
  have U2 := Lib.hid u2
  have R := Lib.hid r
  have FIN := Lib.hid fin
  have FIN2 := Lib.hid fin2
  have VAL := Lib.hid val
  have hd0 : ¬ D = 0 := by omega
  have HW := Lib.hid hw
  clear hw p u1 u2 r fin fin2 val h1 h2 h3 hN hD hm g3 g4 k1 hq hr
  go_enter Try.func18, Try.ntmps18
  go_wp2_with fail
  refine (U1.out _).mono ?_
  rintro e w1 ⟨rfl, hb1⟩
  obtain ⟨c_w1, z_w1⟩ := bcell hb1
  have s_w1 := hb1.size
  try simp at s_w1
  try simp at c_w1
  try simp at z_w1
  have q_w1_0 : w.heap.size < w1.heap.size := by omega
  have q_w1_1 : w.heap.size + 1 < w1.heap.size := by omega
  go_wp2_with fail
  refine (U2.out _).mono ?_
  rintro e w2 ⟨rfl, hb2⟩
  obtain ⟨c_w2, z_w2⟩ := bcell hb2
  have s_w2 := hb2.size
  try simp at s_w2
  try simp at c_w2
  try simp at z_w2
  have q_w2_0 : w.heap.size < w2.heap.size := by omega
  have q_w2_1 : w.heap.size + 1 < w2.heap.size := by omega
  go_wp2_with fail
  refine (R.out _).mono ?_
  rintro e w2 ⟨rfl, rfl⟩
  have B2 : Below w.heap.size w w2 := ((((Below.refl _ w).alloc (Nat.le_refl _) _).alloc (by simp) _).trans (hb1.mono (by simp; omega))).trans (hb2.mono (by omega))
  have HB2 := Lib.hid B2
  clear B2
  go_wp2_with fail
  go_quiet (fail)
  clear wN wD wn hmx
  go_wp2_with fail
  refine (P.out _).mono ?_
  rintro e w3 ⟨rfl, dd, rfl⟩
  rw [HW.out]
  clear f2 hrem HW
  have fin := FIN.out
  have fin2 := FIN2.out
  have val := VAL.out
  clear FIN FIN2 VAL P U1 U2 R
  have o1 := Int.ediv_nonneg (show (0 : Int) ≤ 9223372036854775807 by omega) g1
  have o2 := Int.ediv_le_self wh (show (0 : Int) ≤ 9223372036854775807 by omega)
  by_cases hc1 : 0 < wh ∧ 9223372036854775807 / wh < m
  · obtain ⟨c1, c2⟩ := hc1
    have c3 := frame_big c1 c2
    have ev := fin2 (by omega)
    have EV := Lib.hid ev
    have c4 : (9223372036854775807 : Int).tdiv wh = 9223372036854775807 / wh := Int.tdiv_eq_ediv_of_nonneg (by omega)
    clear ev fin fin2 val c3
    go_wp2_with fail
    go_ret2
    exact ⟨congrArg Ending.returned (EV.out).symm, below_drewN HB2.out _⟩
  · have hsm : m * wh ≤ 9223372036854775807 := by
      rcases (by omega : wh = 0 ∨ 0 < wh) with h0 | h0
      · rw [h0, Int.mul_zero]; omega
      · exact frame_small h0 (fun h => hc1 ⟨h0, h⟩)
    have gw : decide (0 < wh) = false ∨ 0 < wh ∧ decide (9223372036854775807 / wh < m) = false := by
      rcases (by omega : wh = 0 ∨ 0 < wh) with h0 | h0
      · left; simp; omega
      · right
        refine ⟨h0, ?_⟩
        simp only [decide_eq_false_iff_not]
        exact fun h => hc1 ⟨h0, h⟩
    clear hc1
    by_cases hc2 : 9223372036854775807 - q0 < m * wh
    · have ev := fin2 (by omega)
      have EV := Lib.hid ev
      clear ev fin fin2 val
      rcases gw with gw | ⟨gw, gw2⟩
      all_goals
        go_wp2_with fail
        go_ret2
        exact ⟨congrArg Ending.returned (EV.out).symm, below_drewN HB2.out _⟩
    · have hc2' : decide (9223372036854775807 - q0 < m * wh) = false := by simpa using hc2
      rcases val with ⟨v1, v2⟩ | ⟨v1, v2, v3⟩ | ⟨v1, v2, v3⟩
      · have ev := fin (by omega) (by omega)
        rw [v2, show m * wh + q0 = q0 + m * wh by omega] at ev
        have EV := Lib.hid ev
        have dn : decide (n < 0) = false := by simp; omega
        clear ev fin fin2 v2
        rcases gw with gw | ⟨gw, gw2⟩
        all_goals
          go_wp2_with fail
          go_ret2
          exact ⟨congrArg Ending.returned (EV.out).symm, below_drewN HB2.out _⟩
      · have ev := fin (by omega) (by omega)
        rw [v3, show m * wh + q0 = q0 + m * wh by omega] at ev
        have EV := Lib.hid ev
        subst v2
        clear ev fin fin2 v3
        rcases gw with gw | ⟨gw, gw2⟩
        all_goals
          go_wp2_with fail
          go_ret2
          exact ⟨congrArg Ending.returned (EV.out).symm, below_drewN HB2.out _⟩
      · by_cases hc3 : q0 + m * wh = 9223372036854775807
        · have ev := fin2 (by omega)
          have EV := Lib.hid ev
          have t3 : (q0 + m * wh == 9223372036854775807) = true := by simpa using hc3
          clear ev fin fin2 v3 hc3
          rcases gw with gw | ⟨gw, gw2⟩
          all_goals
            go_wp2_with fail
            go_ret2
            exact ⟨congrArg Ending.returned (EV.out).symm, below_drewN HB2.out _⟩
        · have ev := fin (by omega) (by omega)
          rw [v3, show -(m * wh + q0) - 1 = -(q0 + m * wh + 1) by omega] at ev
          have EV := Lib.hid ev
          have t3 : (q0 + m * wh == 9223372036854775807) = false := by simpa using hc3
          clear ev fin fin2 v3
          rcases gw with gw | ⟨gw, gw2⟩
          all_goals
            go_wp2_with fail
            go_ret2
            exact ⟨congrArg Ending.returned (EV.out).symm, below_drewN HB2.out _⟩
end Go.Proofs.Ytepadbeijjefiaa
