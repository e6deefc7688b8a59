/- The contracts of divide and MulDiv, over that of Div64. -/
import Derived.Test.YtclainbjidajbaaWide2
namespace Go.Proofs.Ytclainbjidajbaa
open Go.RowKit

/-- Div64 answers at these numbers as it should. -/
def Div64Ok (V den : Nat) : Prop := ∀ w : World,
  Calls Try.prog 57 #[.int .u64 ((V / 18446744073709551616 : Nat) : Int), .int .u64 ((V % 18446744073709551616 : Nat) : Int), .int .u64 (den : Int)] w fun e w' => e = .returned (.tuple #[.int .u64 ((V / den : Nat) : Int), .int .u64 ((V % den : Nat) : Int)]) ∧ ∃ m, w' = w.drewN m
theorem div64_low {V den : Nat} (hV : V < 18446744073709551616) (h : 0 < den) (h' : den < 18446744073709551616) : Div64Ok V den := by
  intro w
  rw [Nat.div_eq_of_lt hV, Nat.mod_eq_of_lt hV]
  exact bits_Div64_low V den hV h' h w

def divV (z den : Int) : Value := if fitsB (z / den) then .tuple #[.int .i64 (z / den), .int .u64 (z % den), .bool true] else .tuple #[.int .i64 0, .int .u64 0, .bool false]
theorem divV_yes {z den : Int} {q r : Int} (h : fitsB (z / den) = true) (hq : q = z / den) (hr : r = z % den) : (.tuple #[.int .i64 q, .int .u64 r, .bool true] : Value) = divV z den := by unfold divV; rw [if_pos h, hq, hr]
theorem divV_no {z den : Int} (h : fitsB (z / den) = false) : (.tuple #[.int .i64 0, .int .u64 0, .bool false] : Value) = divV z den := by unfold divV; rw [if_neg (by simp [h])]

theorem big_no (V den : Nat) (h : 18446744073709551616 ≤ V / den) (z : Int) (hz : z.natAbs = V) : fitsB (z / den) = false := by
  have hd : 0 < den := by 
    rcases Nat.eq_zero_or_pos den with h0 | h0
    · subst h0; simp at h
    · exact h0
  rcases (by omega : z = V ∨ z = -(V : Int)) with rfl | rfl
  · rw [← Int.natCast_ediv]; simp only [fitsB, decide_eq_false_iff_not]; generalize V / den = q at h ⊢; omega
  · rcases floor_neg V den hd with ⟨_, e, _⟩ | ⟨_, e, _⟩ <;> rw [e] <;> simp only [fitsB, decide_eq_false_iff_not] <;> generalize V / den = q at h ⊢ <;> omega

set_option maxHeartbeats 1000000 in
theorem rat_divide_pos (V : Nat) (den : Nat) (w : World) (hd : 0 < den) (hhi : V / 18446744073709551616 < den) (hD : Div64Ok V den) :
    Calls Try.prog 50 #[wideV (V : Int), .int .u64 (den : Int)] w fun e w' => e = .returned (divV (V : Int) den) ∧ Below w.heap.size w w' := by
  have hw : wideV (V : Int) = .agg #[.bool false, .int .u64 ((V / 18446744073709551616 : Nat) : Int), .int .u64 ((V % 18446744073709551616 : Nat) : Int)] := by
    unfold wideV
    rw [show decide ((V : Int) < 0) = false by simp, Int.natAbs_natCast]
  rw [hw]
  unfold Div64Ok at hD
  obtain ⟨q, hq⟩ : ∃ q : Nat, V / den = q := ⟨_, rfl⟩
  obtain ⟨r, hr⟩ : ∃ r : Nat, V % den = r := ⟨_, rfl⟩
  have hrlt : r < den := hr ▸ Nat.mod_lt V hd
  have e1 : (V : Int) / den = q := by rw [← Int.natCast_ediv, hq]
  have e2 : (V : Int) % den = r := by rw [← Int.natCast_emod, hr]
  rw [hq, hr] at hD
  obtain ⟨H, hH⟩ : ∃ q : Nat, V / 18446744073709551616 = q := ⟨_, rfl⟩
  obtain ⟨L, hL⟩ : ∃ q : Nat, V % 18446744073709551616 = q := ⟨_, rfl⟩
  rw [hH, hL] at hD
  rw [hH, hL]
  rw [hH] at hhi
  have HD := Lib.hid hD
  have E1 := Lib.hid e1
  have E2 := Lib.hid e2
  clear hw hq hr hD hH hL e1 e2
  by_cases hc : q ≤ 9223372036854775807
  · go_enter Try.func50, Try.ntmps50
    go_wp2_with (first | (go_at_call 57; ((with_reducible refine (HD.out _).mono ?_); rintro e w1 ⟨rfl, m, rfl⟩)))
    go_ret3
    refine ⟨congrArg Ending.returned (divV_yes (by rw [E1.out]; simp [fitsB]; omega) (by rw [E1.out]) E2.out.symm), below_drewN ((Below.refl _ _).alloc (Nat.le_refl _) _) _⟩
  · go_enter Try.func50, Try.ntmps50
    go_wp2_with (first | (go_at_call 57; ((with_reducible refine (HD.out _).mono ?_); rintro e w1 ⟨rfl, m, rfl⟩)))
    go_ret3
    refine ⟨congrArg Ending.returned (divV_no (by rw [E1.out]; simp [fitsB]; omega)), below_drewN ((Below.refl _ _).alloc (Nat.le_refl _) _) _⟩

theorem wide_neg (V : Nat) (h : 0 < V) : wideV (-(V : Int)) = .agg #[.bool true, .int .u64 ((V / 18446744073709551616 : Nat) : Int), .int .u64 ((V % 18446744073709551616 : Nat) : Int)] := by
  unfold wideV
  rw [show decide (-(V : Int) < 0) = true by simp; exact h, Int.natAbs_neg, Int.natAbs_natCast]

set_option maxHeartbeats 1000000 in
theorem rat_divide_neg (V : Nat) (den : Nat) (w : World) (hV : 0 < V) (hd : 0 < den) (hd2 : den < 18446744073709551616) (hhi : V / 18446744073709551616 < den) (hD : Div64Ok V den) :
    Calls Try.prog 50 #[wideV (-(V : Int)), .int .u64 (den : Int)] w fun e w' => e = .returned (divV (-(V : Int)) den) ∧ Below w.heap.size w w' := by
  rw [wide_neg V hV]
  unfold Div64Ok at hD
  have hfl := floor_neg V den hd
  obtain ⟨q, hq⟩ : ∃ q : Nat, V / den = q := ⟨_, rfl⟩
  obtain ⟨r, hr⟩ : ∃ r : Nat, V % den = r := ⟨_, rfl⟩
  have hrlt : r < den := hr ▸ Nat.mod_lt V hd
  rw [hq, hr] at hD hfl
  obtain ⟨H, hH⟩ : ∃ q : Nat, V / 18446744073709551616 = q := ⟨_, rfl⟩
  obtain ⟨L, hL⟩ : ∃ q : Nat, V % 18446744073709551616 = q := ⟨_, rfl⟩
  rw [hH, hL] at hD
  rw [hH, hL]
  rw [hH] at hhi
  have HD := Lib.hid hD
  clear hq hr hD hH hL hV
  rcases hfl with ⟨h0, e1, e2⟩ | ⟨h0, e1, e2⟩
  · have E1 := Lib.hid e1
    have E2 := Lib.hid e2
    subst h0
    clear e1 e2
    have t0 : ¬ (0 : Int) < ((0 : Nat) : Int) := by omega
    by_cases hc : q < 9223372036854775808
    · have t1 : ((q : Int) == 9223372036854775808) = false := by simp; omega
      have t2 : decide ((9223372036854775808 : Int) < q) = false := by simp; omega
      go_enter Try.func50, Try.ntmps50
      go_wp2_with (first | (go_at_call 57; ((with_reducible refine (HD.out _).mono ?_); rintro e w1 ⟨rfl, m, rfl⟩)))
      go_ret3
      refine ⟨congrArg Ending.returned (divV_yes (by rw [E1.out]; simp only [fitsB, decide_eq_true_eq]; omega) ?_ (by rw [E2.out])), below_drewN ((Below.refl _ _).alloc (Nat.le_refl _) _) _⟩
      rw [E1.out]
      simp only [IntKind.wrap_u64, wrap64]
      omega
    · by_cases hc2 : q = 9223372036854775808
      · subst hc2
        go_enter Try.func50, Try.ntmps50
        go_wp2_with (first | (go_at_call 57; ((with_reducible refine (HD.out _).mono ?_); rintro e w1 ⟨rfl, m, rfl⟩)))
        go_ret3
        refine ⟨congrArg Ending.returned (divV_yes (by rw [E1.out]; simp only [fitsB, decide_eq_true_eq]; omega) ?_ (by rw [E2.out])), below_drewN ((Below.refl _ _).alloc (Nat.le_refl _) _) _⟩
        rw [E1.out]
        simp only [IntKind.wrap_u64, wrap64]
        omega
      · have t1 : (9223372036854775808 : Int) < q := by omega
        go_enter Try.func50, Try.ntmps50
        go_wp2_with (first | (go_at_call 57; ((with_reducible refine (HD.out _).mono ?_); rintro e w1 ⟨rfl, m, rfl⟩)))
        go_ret3
        refine ⟨congrArg Ending.returned (divV_no (by rw [E1.out]; simp [fitsB]; omega)), below_drewN ((Below.refl _ _).alloc (Nat.le_refl _) _) _⟩
  · have E1 := Lib.hid e1
    have E2 := Lib.hid e2
    clear e1 e2
    by_cases hc : q < 9223372036854775808
    · have t1 : ((q : Int) == 9223372036854775808) = false := by simp; omega
      have t2 : decide ((9223372036854775808 : Int) < q) = false := by simp; omega
      go_enter Try.func50, Try.ntmps50
      go_wp2_with (first | (go_at_call 57; ((with_reducible refine (HD.out _).mono ?_); rintro e w1 ⟨rfl, m, rfl⟩)))
      go_ret3
      refine ⟨congrArg Ending.returned (divV_yes (by rw [E1.out]; simp only [fitsB, decide_eq_true_eq]; omega) ?_ ?_), below_drewN ((Below.refl _ _).alloc (Nat.le_refl _) _) _⟩
      · rw [E1.out]
        simp only [IntKind.wrap_u64, wrap64]
        omega
      · rw [E2.out]
    · by_cases hc2 : q = 9223372036854775808
      · subst hc2
        go_enter Try.func50, Try.ntmps50
        go_wp2_with (first | (go_at_call 57; ((with_reducible refine (HD.out _).mono ?_); rintro e w1 ⟨rfl, m, rfl⟩)))
        go_ret3
        refine ⟨congrArg Ending.returned (divV_no (by rw [E1.out]; simp only [fitsB, decide_eq_false_iff_not]; omega)), below_drewN ((Below.refl _ _).alloc (Nat.le_refl _) _) _⟩
      · have t1 : (9223372036854775808 : Int) < q := by omega
        go_enter Try.func50, Try.ntmps50
        go_wp2_with (first | (go_at_call 57; ((with_reducible refine (HD.out _).mono ?_); rintro e w1 ⟨rfl, m, rfl⟩)))
        go_ret3
        refine ⟨congrArg Ending.returned (divV_no (by rw [E1.out]; simp [fitsB]; omega)), below_drewN ((Below.refl _ _).alloc (Nat.le_refl _) _) _⟩

set_option maxHeartbeats 1000000 in
theorem rat_divide_big (s : Bool) (H L den : Nat) (w : World) (hhi : den ≤ H) :
    Calls Try.prog 50 #[.agg #[.bool s, .int .u64 (H : Int), .int .u64 (L : Int)], .int .u64 (den : Int)] w fun e w' => e = .returned (.tuple #[.int .i64 0, .int .u64 0, .bool false]) ∧ Below w.heap.size w w' := by
  go_enter Try.func50, Try.ntmps50
  go_wp2_with fail
  go_ret3
  exact ⟨rfl, (Below.refl _ _).alloc (Nat.le_refl _) _⟩

theorem rat_divide (z : Int) (den : Nat) (w : World) (hd : 0 < den) (hd2 : den < 18446744073709551616) (hD : z.natAbs / 18446744073709551616 < den → Div64Ok z.natAbs den) :
    Calls Try.prog 50 #[wideV z, .int .u64 (den : Int)] w fun e w' => e = .returned (divV z den) ∧ Below w.heap.size w w' := by
  by_cases hh : z.natAbs / 18446744073709551616 < den
  · have h := hD hh
    obtain ⟨V, hV⟩ : ∃ V, z.natAbs = V := ⟨_, rfl⟩
    rw [hV] at h hh
    rcases (by omega : z = V ∨ 0 < V ∧ z = -(V : Int)) with rfl | ⟨hp, rfl⟩
    · exact rat_divide_pos V den w hd hh h
    · exact rat_divide_neg V den w hp hd hd2 hh h
  · have := rat_divide_big (decide (z < 0)) (z.natAbs / 18446744073709551616) (z.natAbs % 18446744073709551616) den w (by omega)
    refine this.mono ?_
    rintro e w' ⟨rfl, hw⟩
    refine ⟨congrArg Ending.returned (divV_no (big_no z.natAbs den ?_ z rfl)), hw⟩
    rw [Nat.le_div_iff_mul_le hd]
    have h2 : den ≤ z.natAbs / 18446744073709551616 := by omega
    rw [Nat.le_div_iff_mul_le (by omega)] at h2
    omega

end Go.Proofs.Ytclainbjidajbaa
