/- The contracts of telecine, ratios, fieldsBefore, Shown. -/
import Derived.Test.YtclainbjidajbaaCadC
namespace Go.Proofs.Ytclainbjidajbaa
open Go.RowKit

/-- film a/b can be shown as video c/d. -/
def teleB (a b c d : Int) : Bool := usableR a b && usableR c d && (decide (a * d ≤ c * b) && decide (2 * (c * b) ≤ 3 * (a * d)))
def beforeF (k a b c d : Int) : Int := 2 * k * (c * b) / (a * d)

theorem usable_mul {a b c d : Int} (h : usableR a b = true) (h' : usableR c d = true) : (1 ≤ c * b ∧ c * b ≤ 68719476736) ∧ (1 ≤ a * d ∧ a * d ≤ 68719476736) := by
  simp only [usableR, decide_eq_true_eq] at h h'
  have h1 := mulDiv_lt (x := c) (y := b) (m := 1048576) (n := 65536) (by omega) (by omega) (by omega) (by omega)
  have h2 := mulDiv_lt (x := a) (y := d) (m := 1048576) (n := 65536) (by omega) (by omega) (by omega) (by omega)
  have h3 := Int.mul_pos (show 0 < c by omega) (show 0 < b by omega)
  have h4 := Int.mul_pos (show 0 < a by omega) (show 0 < d by omega)
  omega
theorem tele_bd {a b c d : Int} (h : teleB a b c d = true) : (1 ≤ c * b ∧ c * b ≤ 68719476736) ∧ (1 ≤ a * d ∧ a * d ≤ 68719476736) ∧ a * d ≤ c * b ∧ 2 * (c * b) ≤ 3 * (a * d) ∧ 1 ≤ a ∧ a ≤ 1048576 ∧ 1 ≤ b ∧ b ≤ 65536 ∧ 1 ≤ c ∧ c ≤ 1048576 ∧ 1 ≤ d ∧ d ≤ 65536 := by
  simp only [teleB, Bool.and_eq_true, decide_eq_true_eq] at h
  obtain ⟨⟨h1, h2⟩, h3⟩ := h
  have := usable_mul h1 h2
  simp only [usableR, decide_eq_true_eq] at h1 h2
  omega
theorem before_bd {k a b c d : Int} (h : teleB a b c d = true) (h0 : 0 ≤ k) (h1 : k ≤ 2147483647) : 0 ≤ beforeF k a b c d ∧ beforeF k a b c d ≤ 3 * k := by
  obtain ⟨⟨v1, v2⟩, ⟨f1, f2⟩, h3, h4, _⟩ := tele_bd h
  unfold beforeF
  generalize c * b = V at *
  generalize a * d = F at *
  have hp := Int.mul_nonneg (show 0 ≤ 2 * k by omega) (show 0 ≤ V by omega)
  refine ⟨Int.ediv_nonneg hp (by omega), ?_⟩
  apply Int.ediv_le_of_le_mul (by omega)
  have e := Int.mul_le_mul_of_nonneg_left h4 h0
  have e1 : 2 * k * V = k * (2 * V) := by rw [Int.mul_comm 2 k, Int.mul_assoc]
  have e2 : 3 * k * F = k * (3 * F) := by rw [Int.mul_comm 3 k, Int.mul_assoc]
  omega

set_option maxHeartbeats 1000000 in
theorem cad_telecine (a b c d : Int) (w : World) (ha : I64 a) (hb : I64 b) (hc : I64 c) (hd : I64 d) :
    Calls Try.prog 35 #[.agg #[.int .i64 a, .int .i64 b], .agg #[.int .i64 c, .int .i64 d]] w fun e w' => e = .returned (.bool (teleB a b c d)) ∧ Below w.heap.size w w' := by
  have u1 := fun w => cad_Usable a b w ha.lo ha.hi hb.lo hb.hi
  have u2 := fun w => cad_Usable c d w hc.lo hc.hi hd.lo hd.hi
  by_cases h1 : usableR a b = true
  · rw [h1] at u1
    have U1 := Lib.hid u1
    by_cases h2 : usableR c d = true
    · rw [h2] at u2
      have U2 := Lib.hid u2
      obtain ⟨m1, m2⟩ := usable_mul h1 h2
      have e1 : teleB a b c d = (decide (a * d ≤ c * b) && decide (2 * (c * b) ≤ 3 * (a * d))) := by unfold teleB; rw [h1, h2]; rfl
      rw [e1]
      obtain ⟨V, hV⟩ : ∃ V, c * b = V := ⟨_, rfl⟩
      obtain ⟨F, hF⟩ : ∃ F, a * d = F := ⟨_, rfl⟩
      rw [hV] at m1 ⊢
      rw [hF] at m2 ⊢
      have wV : IntKind.i64.wrap (c * b) = V := by rw [hV]; exact IntWalk.i64_in _ (by omega)
      have wF : IntKind.i64.wrap (a * d) = F := by rw [hF]; exact IntWalk.i64_in _ (by omega)
      clear u1 u2 h1 h2 e1 hV hF
      go_enter Try.func35, Try.ntmps35
      go_wp2_with fail
      refine (U1.out _).mono ?_
      rintro e w1 ⟨rfl, hb1⟩
      obtain ⟨c_w1, z_w1⟩ := bcell hb1
      have s_w1 := hb1.size
      try simp at s_w1
      try simp at c_w1
      try simp at z_w1
      have q_w1_0 : w.heap.size < w1.heap.size := by omega
      have q_w1_1 : w.heap.size + 1 < w1.heap.size := by omega
      go_wp2_with fail
      refine (U2.out _).mono ?_
      rintro e w2 ⟨rfl, hb2⟩
      obtain ⟨c_w2, z_w2⟩ := bcell hb2
      have s_w2 := hb2.size
      try simp at s_w2
      try simp at c_w2
      try simp at z_w2
      have q_w2_0 : w.heap.size < w2.heap.size := by omega
      have q_w2_1 : w.heap.size + 1 < w2.heap.size := by omega
      go_wp2_with fail
      go_quiet (fail)
      clear wV wF
      go_wp2_with fail
      all_goals
        go_ret
        refine ⟨ret_bool ?_, below_drewN (((((Below.refl _ w).alloc (Nat.le_refl _) _).alloc (by simp) _).trans (hb1.mono (by simp; omega))).trans (hb2.mono (by omega))) _⟩
        first | rfl | (simp; omega) | (rw [Bool.eq_iff_iff]; simp; omega)
    · have h2' : usableR c d = false := by simpa using h2
      rw [h2'] at u2
      have U2 := Lib.hid u2
      have e1 : teleB a b c d = false := by unfold teleB; rw [h2']; simp
      rw [e1]
      clear u1 u2 h1 h2 h2' e1
      go_enter Try.func35, Try.ntmps35
      go_wp2_with fail
      refine (U1.out _).mono ?_
      rintro e w1 ⟨rfl, hb1⟩
      obtain ⟨c_w1, z_w1⟩ := bcell hb1
      have s_w1 := hb1.size
      try simp at s_w1
      try simp at c_w1
      try simp at z_w1
      have q_w1_0 : w.heap.size < w1.heap.size := by omega
      have q_w1_1 : w.heap.size + 1 < w1.heap.size := by omega
      go_wp2_with fail
      refine (U2.out _).mono ?_
      rintro e w2 ⟨rfl, hb2⟩
      go_wp2_with fail
      go_ret
      exact ⟨rfl, ((((Below.refl _ w).alloc (Nat.le_refl _) _).alloc (by simp) _).trans (hb1.mono (by simp; omega))).trans (hb2.mono (by omega))⟩
  · have h1' : usableR a b = false := by simpa using h1
    rw [h1'] at u1
    have U1 := Lib.hid u1
    have e1 : teleB a b c d = false := by unfold teleB; rw [h1']; simp
    rw [e1]
    clear u1 u2 h1 h1' e1
    go_enter Try.func35, Try.ntmps35
    go_wp2_with fail
    refine (U1.out _).mono ?_
    rintro e w1 ⟨rfl, hb1⟩
    go_wp2_with fail
    go_ret
    exact ⟨rfl, (((Below.refl _ w).alloc (Nat.le_refl _) _).alloc (by simp) _).trans (hb1.mono (by simp; omega))⟩

set_option maxHeartbeats 1000000 in
theorem cad_fieldsBefore (k a b c d : Int) (w : World) (h : teleB a b c d = true) (h0 : 0 ≤ k) (h1 : k ≤ 2147483647)
    (hD : (2 * k * (c * b)).natAbs / 18446744073709551616 < (a * d).toNat → Div64Ok (2 * k * (c * b)).natAbs (a * d).toNat) :
    Calls Try.prog 36 #[.int .i64 k, .agg #[.int .i64 a, .int .i64 b], .agg #[.int .i64 c, .int .i64 d]] w fun e w' => e = .returned (.int .i64 (beforeF k a b c d)) ∧ Below w.heap.size w w' := by
  obtain ⟨⟨v1, v2⟩, ⟨f1, f2⟩, h3, h4, x1, x2, x3, x4, x5, x6, x7, x8⟩ := tele_bd h
  have bd := before_bd h h0 h1
  have p := fun w => rat_MulDiv (2 * k) (c * b) (a * d) w (by omega) (by omega) (by omega) (by omega) (by omega) (by omega) hD
  have e1 : mulDivV (2 * k * (c * b)) (a * d) = .tuple #[.int .i64 (beforeF k a b c d), .int .i64 (2 * k * (c * b) % (a * d)), .int .i64 0] := by
    unfold mulDivV; rw [if_pos (by simp only [fitsB, decide_eq_true_eq]; unfold beforeF at bd; omega)]; rfl
  rw [e1] at p
  have P := Lib.hid p
  clear p e1 hD h h3 h4
  generalize beforeF k a b c d = q at *
  go_enter Try.func36, Try.ntmps36
  go_wp2_with fail
  refine (P.out _).mono ?_
  rintro e w1 ⟨rfl, hb1⟩
  go_wp2_with fail
  go_ret
  exact ⟨rfl, (((Below.refl _ w).alloc (Nat.le_refl _) _).alloc (by simp) _).trans (hb1.mono (by simp; omega))⟩

end Go.Proofs.Ytclainbjidajbaa
