/- The contract of the reference's Split. -/
import Derived.Test.YtepadbeijjefiaaWideD
namespace Go.Proofs.Ytepadbeijjefiaa
open Go.RowKit

theorem q_le {q r a m num den : Int} (h : q * den + r = a * num) (h0 : 0 ≤ r) (ha : a ≤ m) (hn : 0 ≤ num) (hd : 0 < den) : q ≤ m * num / den := by
  apply Int.le_ediv_of_mul_le hd
  have := Int.mul_le_mul_of_nonneg_right ha hn
  omega

def SplRel (m num den : Int) (w : World) (a b i : Value) (wr : World) : Prop :=
  ∃ (k d : Nat) (q r : Int), k ≤ 32 ∧ 0 ≤ q ∧ 0 ≤ r ∧ r < den ∧ q * den + r = m / 2 ^ k * num ∧ a = .int .i64 q ∧ b = .int .i64 r ∧ i = .int .i64 ((k : Int) - 1) ∧ wr = w.drewN d
def SplIn (a num den : Int) (x y : Value) : Prop :=
  ∃ (q r : Int), 0 ≤ q ∧ 0 ≤ r ∧ r ≤ 2305843009213693952 ∧ q * den + r = a * num ∧ x = .int .i64 q ∧ y = .int .i64 r

theorem split_bit (m : Int) (j : Nat) : m / 2 ^ j = 2 * (m / 2 ^ (j + 1)) + m / 2 ^ j % 2 := by
  have e : m / 2 ^ (j + 1) = m / 2 ^ j / 2 := by rw [Int.pow_succ, Int.ediv_ediv_of_nonneg (Int.pow_nonneg (by omega))]
  rw [e]; omega
theorem pow_div_le (m : Int) (j : Nat) (h : 0 ≤ m) : 0 ≤ m / 2 ^ j ∧ m / 2 ^ j ≤ m :=
  ⟨Int.ediv_nonneg h (Int.pow_nonneg (by omega)), Int.ediv_le_self _ h⟩
theorem split_out {q r A num den m : Int} (h : q * den + r = A * num) (h0 : 0 ≤ r) (h1 : r < den) (e : A = m) : m * num / den = q ∧ m * num % den = r := by
  subst e
  exact split_done h h0 h1
theorem split_inc {q r den z : Int} (h : q * den + r = z) : (q + 1) * den + (r - den) = z := by
  rw [Int.add_mul]; omega

theorem split_neg {m num den q r : Int} (h1 : m * num / den = q) (h2 : m * num % den = r) (hd : 0 < den) :
    (r = 0 ∧ -m * num / den = -q ∧ -m * num % den = 0) ∨ (0 < r ∧ -m * num / den = -q - 1 ∧ -m * num % den = den - r) := by
  have e := Int.mul_ediv_add_emod (m * num) den
  rw [h1, h2] at e
  have g3 := Int.emod_nonneg (m * num) (show den ≠ 0 by omega)
  have g4 := Int.emod_lt_of_pos (m * num) hd
  rw [h2] at g3 g4
  rw [Int.neg_mul]
  rcases (by omega : r = 0 ∨ 0 < r) with h0 | h0
  · left
    refine ⟨h0, (Int.ediv_emod_unique hd).2 ⟨?_, by omega, by omega⟩⟩
    rw [Int.mul_neg]; omega
  · right
    refine ⟨h0, (Int.ediv_emod_unique hd).2 ⟨?_, by omega, by omega⟩⟩
    rw [Int.mul_sub, Int.mul_neg]; omega

set_option maxHeartbeats 1000000 in
theorem ref_Split_pos (m num den : Int) (w : World) (m0 : 0 ≤ m) (m1 : m < 4294967296) (n0 : 0 ≤ num) (n1 : num ≤ 18014398509481984) (d0 : 1 ≤ den) (d1 : den ≤ 18014398509481984) (hq : m * num / den ≤ 9223372036854775807) :
    Calls Try.prog 36 #[.int .i64 m, .int .i64 num, .int .i64 den] w fun e w' => e = .returned (.tuple #[.int .i64 (m * num / den), .int .i64 (m * num % den)]) ∧ ∃ d, w' = w.drewN d := by
  obtain ⟨Q, hQ⟩ : ∃ Q, m * num / den = Q := ⟨_, rfl⟩
  rw [hQ] at hq
  have HQ := Lib.hid hQ
  clear hQ
  have gm : decide (m < 0) = false := by simp; omega
  go_enter Try.func36, Try.ntmps36
  go_wp2_with fail
  go_loopw [9, 10, 11] (fun a b i wr => SplRel m num den w a b i wr) (fun _ _ i _ => (intOf i + 1).toNat)
  case atStart =>
    refine ⟨32, 0, 0, 0, Nat.le_refl _, Int.le_refl _, Int.le_refl _, by omega, ?_, rfl, rfl, rfl, rfl⟩
    rw [show m / 2 ^ 32 = 0 by omega]
    simp
  case round =>
    obtain ⟨k, d, q, r, hk, q0, r0, r1, hqr, rfl, rfl, rfl, rfl⟩ := hrel
    have HR := Lib.hid hqr
    clear hqr
    rcases Nat.eq_zero_or_pos k with hk0 | hk0
    · subst hk0
      obtain ⟨e1, e2⟩ := split_out (m := m) HR.out r0 r1 (by simp)
      have E1 := Lib.hid e1
      have E2 := Lib.hid e2
      clear e1 e2
      go_wp2_with fail
      go_ret2
      exact ⟨ret2_u64 E1.out.symm E2.out.symm, d, rfl⟩
    · obtain ⟨j, rfl⟩ : ∃ j, k = j + 1 := ⟨k - 1, by omega⟩
      rw [show (((j + 1 : Nat) : Int) - 1) = (j : Int) by omega]
      have hb := split_bit m j
      have hp := pow_div_le m j m0
      have hp1 := pow_div_le m (j + 1) m0
      have h2q : 2 * q ≤ Q := by
        rw [← HQ.out]
        refine q_le (r := 2 * r) (a := 2 * (m / 2 ^ (j + 1))) ?_ (by omega) (by omega) n0 (by omega)
        rw [Int.mul_assoc, Int.mul_assoc, ← HR.out]; omega
      have hst := split_step (m / 2 ^ j % 2) (by omega : 0 < den) HR.out
      rw [← hb] at hst
      have hand := i64_and_one (m / 2 ^ j)
      clear hb
      rcases (by omega : m / 2 ^ j % 2 = 0 ∨ m / 2 ^ j % 2 = 1) with hbit | hbit
      · rw [hbit] at hst hand
        have HST : Hid (2 * q * den + 2 * r = m / 2 ^ j * num) := Lib.hid (by simpa using hst)
        have t1 : (bits .and .i64 (m / 2 ^ j) 1 == 1) = false := by rw [hand]; rfl
        clear hst hand hbit hp1 HR
        obtain ⟨a, ha⟩ : ∃ a, m / 2 ^ j = a := ⟨_, rfl⟩
        rw [ha] at HST hp
        have HA := Lib.hid ha
        clear ha
        go_wp2_with fail
        go_loop [9, 10] (fun x y => SplIn a num den x y) (fun _ y => (intOf y).toNat)
        case atStart => exact ⟨2 * q, 2 * r, by omega, by omega, by omega, HST.out, rfl, rfl⟩
        case round =>
          obtain ⟨q', r', q0', r0', r1', hqr', rfl, rfl⟩ := hrel
          have HR' := Lib.hid hqr'
          clear hqr'
          by_cases hge : den ≤ r'
          · have hle : q' + 1 ≤ Q := by
              rw [← HQ.out]
              exact q_le (split_inc HR'.out) (by omega) hp.2 n0 (by omega)
            go_wp2_with fail
            go_round
            case rel => exact ⟨q' + 1, r' - den, by omega, by omega, by omega, split_inc HR'.out, rfl, rfl⟩
            case measure => simp [intOf] <;> omega
          · go_wp2_with fail
            go_roundw
            case rel => exact ⟨j, _, q', r', by omega, by omega, by omega, by omega, by rw [HA.out]; exact HR'.out, rfl, rfl, rfl, rfl⟩
            case measure => simp [intOf] <;> omega
      · rw [hbit] at hst hand
        have HST : Hid ((2 * q + num / den) * den + (2 * r + num % den) = m / 2 ^ j * num) := Lib.hid (by simpa using hst)
        have t1 : (bits .and .i64 (m / 2 ^ j) 1 == 1) = true := by rw [hand]; rfl
        clear hst hand hbit hp1 HR
        obtain ⟨a, ha⟩ : ∃ a, m / 2 ^ j = a := ⟨_, rfl⟩
        rw [ha] at HST hp
        have HA := Lib.hid ha
        clear ha
        have f1 : num.tdiv den = num / den := Int.tdiv_eq_ediv_of_nonneg n0
        have f2 : num.tmod den = num % den := Int.tmod_eq_emod_of_nonneg n0
        have g1 := Int.ediv_nonneg n0 (show 0 ≤ den by omega)
        have g2 := Int.ediv_le_self den n0
        have g3 := Int.emod_nonneg num (show den ≠ 0 by omega)
        have g4 := Int.emod_lt_of_pos num (show 0 < den by omega)
        obtain ⟨c1, hc1⟩ : ∃ c, num / den = c := ⟨_, rfl⟩
        obtain ⟨c2, hc2⟩ : ∃ c, num % den = c := ⟨_, rfl⟩
        rw [hc1] at f1 g1 g2 HST
        rw [hc2] at f2 g3 g4 HST
        clear hc1 hc2
        have h3q : 2 * q + c1 ≤ Q := by
          rw [← HQ.out]
          exact q_le HST.out (by omega) hp.2 n0 (by omega)
        have f3 : IntKind.i64.wrap c1 = c1 := IntWalk.i64_in _ (by omega)
        have f4 : IntKind.i64.wrap (2 * q + c1) = 2 * q + c1 := IntWalk.i64_in _ (by omega)
        have f5 : IntKind.i64.wrap (2 * r + c2) = 2 * r + c2 := IntWalk.i64_in _ (by omega)
        have hd0 : ¬ den = 0 := by omega
        go_wp2_with fail
        go_quiet (fail)
        clear f1 f2 f3 f4 f5
        go_wp2_with fail
        go_loop [9, 10] (fun x y => SplIn a num den x y) (fun _ y => (intOf y).toNat)
        case atStart => exact ⟨2 * q + c1, 2 * r + c2, by omega, by omega, by omega, HST.out, rfl, rfl⟩
        case round =>
          obtain ⟨q', r', q0', r0', r1', hqr', rfl, rfl⟩ := hrel
          have HR' := Lib.hid hqr'
          clear hqr'
          by_cases hge : den ≤ r'
          · have hle : q' + 1 ≤ Q := by
              rw [← HQ.out]
              exact q_le (split_inc HR'.out) (by omega) hp.2 n0 (by omega)
            go_wp2_with fail
            go_round
            case rel => exact ⟨q' + 1, r' - den, by omega, by omega, by omega, split_inc HR'.out, rfl, rfl⟩
            case measure => simp [intOf] <;> omega
          · go_wp2_with fail
            go_roundw
            case rel => exact ⟨j, _, q', r', by omega, by omega, by omega, by omega, by rw [HA.out]; exact HR'.out, rfl, rfl, rfl, rfl⟩
            case measure => simp [intOf] <;> omega

set_option maxHeartbeats 1000000 in
theorem ref_Split_neg (m num den : Int) (w : World) (m00 : 0 < m) (m1 : m < 4294967296) (n0 : 0 ≤ num) (n1 : num ≤ 18014398509481984) (d0 : 1 ≤ den) (d1 : den ≤ 18014398509481984) (hq : m * num / den ≤ 9223372036854775807) :
    Calls Try.prog 36 #[.int .i64 (-m), .int .i64 num, .int .i64 den] w fun e w' => e = .returned (.tuple #[.int .i64 ((-m) * num / den), .int .i64 ((-m) * num % den)]) ∧ ∃ d, w' = w.drewN d := by
  obtain ⟨Q, hQ⟩ : ∃ Q, m * num / den = Q := ⟨_, rfl⟩
  rw [hQ] at hq
  have HQ := Lib.hid hQ
  clear hQ
  have gm : decide (-m < 0) = true := by simp; omega
  have m0 : 0 ≤ m := by omega
  go_enter Try.func36, Try.ntmps36
  go_wp2_with fail
  go_loopw [9, 10, 11] (fun a b i wr => SplRel m num den w a b i wr) (fun _ _ i _ => (intOf i + 1).toNat)
  case atStart =>
    refine ⟨32, 0, 0, 0, Nat.le_refl _, Int.le_refl _, Int.le_refl _, by omega, ?_, rfl, rfl, rfl, rfl⟩
    rw [show m / 2 ^ 32 = 0 by omega]
    simp
  case round =>
    obtain ⟨k, d, q, r, hk, q0, r0, r1, hqr, rfl, rfl, rfl, rfl⟩ := hrel
    have HR := Lib.hid hqr
    clear hqr
    rcases Nat.eq_zero_or_pos k with hk0 | hk0
    · subst hk0
      obtain ⟨e1, e2⟩ := split_out (m := m) HR.out r0 r1 (by simp)
      rcases split_neg e1 e2 (by omega : 0 < den) with ⟨hr, e3, e4⟩ | ⟨hr, e3, e4⟩
      · have E1 := Lib.hid e3
        have E2 := Lib.hid e4
        have hqb : q ≤ Q := by rw [← HQ.out, e1]; exact Int.le_refl _
        clear e1 e2 e3 e4
        subst hr
        go_wp2_with fail
        go_ret2
        exact ⟨ret2_u64 E1.out.symm E2.out.symm, d, rfl⟩
      · have E1 := Lib.hid e3
        have E2 := Lib.hid e4
        have hqb : q ≤ Q := by rw [← HQ.out, e1]; exact Int.le_refl _
        clear e1 e2 e3 e4
        go_wp2_with fail
        go_ret2
        exact ⟨ret2_u64 E1.out.symm E2.out.symm, d, rfl⟩
    · obtain ⟨j, rfl⟩ : ∃ j, k = j + 1 := ⟨k - 1, by omega⟩
      rw [show (((j + 1 : Nat) : Int) - 1) = (j : Int) by omega]
      have hb := split_bit m j
      have hp := pow_div_le m j m0
      have hp1 := pow_div_le m (j + 1) m0
      have h2q : 2 * q ≤ Q := by
        rw [← HQ.out]
        refine q_le (r := 2 * r) (a := 2 * (m / 2 ^ (j + 1))) ?_ (by omega) (by omega) n0 (by omega)
        rw [Int.mul_assoc, Int.mul_assoc, ← HR.out]; omega
      have hst := split_step (m / 2 ^ j % 2) (by omega : 0 < den) HR.out
      rw [← hb] at hst
      have hand := i64_and_one (m / 2 ^ j)
      clear hb
      rcases (by omega : m / 2 ^ j % 2 = 0 ∨ m / 2 ^ j % 2 = 1) with hbit | hbit
      · rw [hbit] at hst hand
        have HST : Hid (2 * q * den + 2 * r = m / 2 ^ j * num) := Lib.hid (by simpa using hst)
        have t1 : (bits .and .i64 (m / 2 ^ j) 1 == 1) = false := by rw [hand]; rfl
        clear hst hand hbit hp1 HR
        obtain ⟨a, ha⟩ : ∃ a, m / 2 ^ j = a := ⟨_, rfl⟩
        rw [ha] at HST hp
        have HA := Lib.hid ha
        clear ha
        go_wp2_with fail
        go_loop [9, 10] (fun x y => SplIn a num den x y) (fun _ y => (intOf y).toNat)
        case atStart => exact ⟨2 * q, 2 * r, by omega, by omega, by omega, HST.out, rfl, rfl⟩
        case round =>
          obtain ⟨q', r', q0', r0', r1', hqr', rfl, rfl⟩ := hrel
          have HR' := Lib.hid hqr'
          clear hqr'
          by_cases hge : den ≤ r'
          · have hle : q' + 1 ≤ Q := by
              rw [← HQ.out]
              exact q_le (split_inc HR'.out) (by omega) hp.2 n0 (by omega)
            go_wp2_with fail
            go_round
            case rel => exact ⟨q' + 1, r' - den, by omega, by omega, by omega, split_inc HR'.out, rfl, rfl⟩
            case measure => simp [intOf] <;> omega
          · go_wp2_with fail
            go_roundw
            case rel => exact ⟨j, _, q', r', by omega, by omega, by omega, by omega, by rw [HA.out]; exact HR'.out, rfl, rfl, rfl, rfl⟩
            case measure => simp [intOf] <;> omega
      · rw [hbit] at hst hand
        have HST : Hid ((2 * q + num / den) * den + (2 * r + num % den) = m / 2 ^ j * num) := Lib.hid (by simpa using hst)
        have t1 : (bits .and .i64 (m / 2 ^ j) 1 == 1) = true := by rw [hand]; rfl
        clear hst hand hbit hp1 HR
        obtain ⟨a, ha⟩ : ∃ a, m / 2 ^ j = a := ⟨_, rfl⟩
        rw [ha] at HST hp
        have HA := Lib.hid ha
        clear ha
        have f1 : num.tdiv den = num / den := Int.tdiv_eq_ediv_of_nonneg n0
        have f2 : num.tmod den = num % den := Int.tmod_eq_emod_of_nonneg n0
        have g1 := Int.ediv_nonneg n0 (show 0 ≤ den by omega)
        have g2 := Int.ediv_le_self den n0
        have g3 := Int.emod_nonneg num (show den ≠ 0 by omega)
        have g4 := Int.emod_lt_of_pos num (show 0 < den by omega)
        obtain ⟨c1, hc1⟩ : ∃ c, num / den = c := ⟨_, rfl⟩
        obtain ⟨c2, hc2⟩ : ∃ c, num % den = c := ⟨_, rfl⟩
        rw [hc1] at f1 g1 g2 HST
        rw [hc2] at f2 g3 g4 HST
        clear hc1 hc2
        have h3q : 2 * q + c1 ≤ Q := by
          rw [← HQ.out]
          exact q_le HST.out (by omega) hp.2 n0 (by omega)
        have f3 : IntKind.i64.wrap c1 = c1 := IntWalk.i64_in _ (by omega)
        have f4 : IntKind.i64.wrap (2 * q + c1) = 2 * q + c1 := IntWalk.i64_in _ (by omega)
        have f5 : IntKind.i64.wrap (2 * r + c2) = 2 * r + c2 := IntWalk.i64_in _ (by omega)
        have hd0 : ¬ den = 0 := by omega
        go_wp2_with fail
        go_quiet (fail)
        clear f1 f2 f3 f4 f5
        go_wp2_with fail
        go_loop [9, 10] (fun x y => SplIn a num den x y) (fun _ y => (intOf y).toNat)
        case atStart => exact ⟨2 * q + c1, 2 * r + c2, by omega, by omega, by omega, HST.out, rfl, rfl⟩
        case round =>
          obtain ⟨q', r', q0', r0', r1', hqr', rfl, rfl⟩ := hrel
          have HR' := Lib.hid hqr'
          clear hqr'
          by_cases hge : den ≤ r'
          · have hle : q' + 1 ≤ Q := by
              rw [← HQ.out]
              exact q_le (split_inc HR'.out) (by omega) hp.2 n0 (by omega)
            go_wp2_with fail
            go_round
            case rel => exact ⟨q' + 1, r' - den, by omega, by omega, by omega, split_inc HR'.out, rfl, rfl⟩
            case measure => simp [intOf] <;> omega
          · go_wp2_with fail
            go_roundw
            case rel => exact ⟨j, _, q', r', by omega, by omega, by omega, by omega, by rw [HA.out]; exact HR'.out, rfl, rfl, rfl, rfl⟩
            case measure => simp [intOf] <;> omega

theorem ref_Split (n num den : Int) (w : World) (n1 : -4294967296 < n) (n2 : n < 4294967296) (a0 : 0 ≤ num) (a1 : num ≤ 18014398509481984) (d0 : 1 ≤ den) (d1 : den ≤ 18014398509481984) (hq : n.natAbs * num / den ≤ 9223372036854775807) :
    Calls Try.prog 36 #[.int .i64 n, .int .i64 num, .int .i64 den] w fun e w' => e = .returned (.tuple #[.int .i64 (n * num / den), .int .i64 (n * num % den)]) ∧ ∃ d, w' = w.drewN d := by
  rcases (by omega : 0 ≤ n ∨ n < 0) with h | h
  · exact ref_Split_pos n num den w h n2 a0 a1 d0 d1 (by rwa [show ((n.natAbs : Nat) : Int) = n by omega] at hq)
  · have := ref_Split_neg (-n) num den w (by omega) (by omega) a0 a1 d0 d1 (by rwa [show ((n.natAbs : Nat) : Int) = -n by omega] at hq)
    rwa [Int.neg_neg] at this
end Go.Proofs.Ytepadbeijjefiaa
