/- The reference's MulDiv of numbers that are not negative (for seats without the reference's Of). -/
import Derived.Test.YtdnchjmopkhnaaaDivAll
import Derived.Test.YtdnchjmopkhnaaaGen
namespace Go.Proofs.Ytdnchjmopkhnaaa
open Go.RowKit

theorem r1_mag (x : Nat) (w : World) (hx : x ≤ 9223372036854775807) :
    Calls Try.prog 61 #[.int .i64 (x : Int)] w fun e w' => e = .returned (.int .u64 (x : Int)) ∧ w' = w := by
  have h0 : decide ((x : Int) < 0) = false := decide_eq_false (by omega)
  go_enter Try.func61, Try.ntmps61
  go_wp2_with fail
  go_ret
  exact ⟨rfl, rfl⟩
def w2V (V : Nat) : Value := .agg #[.int .u64 ((V / 18446744073709551616 : Nat) : Int), .int .u64 ((V % 18446744073709551616 : Nat) : Int)]
theorem w2_eq {V H L : Nat} (h1 : V / 18446744073709551616 = H) (h2 : V % 18446744073709551616 = L) : (.agg #[.int .u64 (H : Int), .int .u64 (L : Int)] : Value) = w2V V := by unfold w2V; rw [h1, h2]
theorem w2_small (n : Nat) (h : n < 18446744073709551616) : w2V n = .agg #[.int .u64 0, .int .u64 (n : Int)] := by
  unfold w2V; rw [Nat.div_eq_of_lt h, Nat.mod_eq_of_lt h]; rfl
theorem w2_open (V : Nat) : ∃ H L : Nat, w2V V = .agg #[.int .u64 (H : Int), .int .u64 (L : Int)] ∧ V / 18446744073709551616 = H ∧ V % 18446744073709551616 = L := ⟨_, _, rfl, rfl, rfl⟩

set_option maxHeartbeats 1000000 in
theorem r01_times (x y : Nat) (w : World) (hx : x < 18446744073709551616) (hy : y < 18446744073709551616) :
    Calls Try.prog 60 #[.int .u64 x, .int .u64 y] w fun e w' => e = .returned (w2V (x * y)) ∧ Below w.heap.size w w' := by
  have hm := fun w => bits_Mul64 x y hx hy w
  obtain ⟨H, L, e, hH, hL⟩ := w2_open (x * y)
  rw [hH, hL] at hm
  rw [e]
  have HM := Lib.hid hm
  clear hm hH hL e
  go_enter Try.func60, Try.ntmps60
  go_wp2_with fail
  refine (HM.out _).mono ?_
  rintro e w1 ⟨rfl, rfl⟩
  go_wp2_with fail
  refine bodyPost_ret (v := .agg #[.int .u64 (H : Int), .int .u64 (L : Int)]) (by simp [results, Try.results60, go_sem]) rfl ⟨rfl, ?_⟩
  exact (Below.refl _ _).alloc (Nat.le_refl _) _

def overV (V den : Nat) : Value := if den ≤ V / 18446744073709551616 then .tuple #[.int .u64 0, .int .u64 0, .bool false] else .tuple #[.int .u64 ((V / den : Nat) : Int), .int .u64 ((V % den : Nat) : Int), .bool true]
set_option maxHeartbeats 1000000 in
theorem r01_over (V den : Nat) (w : World) (hd : den < 18446744073709551616) :
    Calls Try.prog 59 #[w2V V, .int .u64 (den : Int)] w fun e w' => e = .returned (overV V den) ∧ Below w.heap.size w w' := by
  have hO : V / 18446744073709551616 < den → Div64Ok V den := fun h => div64_ok h hd
  obtain ⟨H, L, e1, p1, p2⟩ := w2_open V
  rw [e1]
  by_cases hc : den ≤ H
  · rw [show overV V den = .tuple #[.int .u64 0, .int .u64 0, .bool false] by unfold overV; rw [if_pos (by omega)]]
    clear e1 p1 p2 hO
    go_enter Try.func59, Try.ntmps59
    go_wp2_with fail
    go_ret3
    exact ⟨rfl, (Below.refl _ _).alloc (Nat.le_refl _) _⟩
  · rw [show overV V den = .tuple #[.int .u64 ((V / den : Nat) : Int), .int .u64 ((V % den : Nat) : Int), .bool true] by unfold overV; rw [if_neg (by omega)]]
    have hD := hO (by omega)
    unfold Div64Ok at hD
    rw [p1, p2] at hD
    obtain ⟨q, hq⟩ : ∃ q, V / den = q := ⟨_, rfl⟩
    obtain ⟨r, hr⟩ : ∃ q, V % den = q := ⟨_, rfl⟩
    rw [hq, hr] at hD ⊢
    have HD := Lib.hid hD
    clear e1 p1 p2 hO hD hq hr
    go_enter Try.func59, Try.ntmps59
    go_wp2_with fail
    refine (HD.out _).mono ?_
    rintro e w1 ⟨rfl, m, rfl⟩
    go_wp2_with fail
    go_ret3
    exact ⟨rfl, bdrewN ((Below.refl _ _).alloc (Nat.le_refl _) _) _⟩

/-- q with a sign, and whether it is an int64. -/
theorem r01_signed_pos (q : Nat) (w : World) (hq : q ≤ 9223372036854775808) :
    Calls Try.prog 62 #[.bool false, .int .u64 (q : Int)] w fun e w' => ∃ x : Int, e = .returned (.tuple #[.int .i64 x, .bool (decide (q ≤ 9223372036854775807))]) ∧ (q ≤ 9223372036854775807 → x = q) ∧ w = w' := by
  by_cases hc : q ≤ 9223372036854775807
  · rw [show decide (q ≤ 9223372036854775807) = true by simpa using hc]
    have td : decide ((q : Int) ≤ 9223372036854775807) = true := by simp; omega
    go_enter Try.func62, Try.ntmps62
    go_wp2_with fail
    go_ret2
    exact ⟨(q : Int), rfl, fun _ => rfl, rfl⟩
  · obtain rfl : q = 9223372036854775808 := by omega
    go_enter Try.func62, Try.ntmps62
    go_wp2_with fail
    go_ret2
    exact ⟨_, rfl, fun h => by omega, rfl⟩

/-- What MulDiv hands back. -/
def mdvV (V den : Nat) : Value := if V / den ≤ 9223372036854775807 then .tuple #[.int .i64 ((V / den : Nat) : Int), .int .i64 ((V % den : Nat) : Int), .int .i64 0] else .tuple #[.int .i64 0, .int .i64 0, .int .i64 2]
theorem mdv_big {V den : Nat} (h0 : 0 < den) (h : den ≤ V / 18446744073709551616) : ¬ V / den ≤ 9223372036854775807 := by
  have h1 : 18446744073709551616 ≤ V / den := by
    rw [Nat.le_div_iff_mul_le h0]
    exact Nat.le_trans (Nat.le_of_eq (Nat.mul_comm _ _)) ((Nat.le_div_iff_mul_le (by omega)).1 h)
  omega
theorem overV_two (V den : Nat) : (den ≤ V / 18446744073709551616 ∧ overV V den = .tuple #[.int .u64 0, .int .u64 0, .bool false]) ∨ ∃ q r : Nat, q = V / den ∧ r = V % den ∧ overV V den = .tuple #[.int .u64 (q : Int), .int .u64 (r : Int), .bool true] := by
  unfold overV
  split
  · rename_i h; exact .inl ⟨h, rfl⟩
  · exact .inr ⟨_, _, rfl, rfl, rfl⟩
theorem mdvV_two (V den : Nat) : (V / den ≤ 9223372036854775807 ∧ mdvV V den = .tuple #[.int .i64 ((V / den : Nat) : Int), .int .i64 ((V % den : Nat) : Int), .int .i64 0]) ∨ (¬ V / den ≤ 9223372036854775807 ∧ mdvV V den = .tuple #[.int .i64 0, .int .i64 0, .int .i64 2]) := by
  unfold mdvV
  split
  · rename_i h; exact .inl ⟨h, rfl⟩
  · rename_i h; exact .inr ⟨h, rfl⟩
set_option maxHeartbeats 1000000 in
theorem r01_MulDivN (x num den : Nat) (w : World) (hx : x ≤ 9223372036854775807) (hn : num ≤ 9223372036854775807) (h0 : 1 ≤ den) (hd : den ≤ 9223372036854775807) :
    Calls Try.prog 49 #[.int .i64 (x : Int), .int .i64 (num : Int), .int .i64 (den : Int)] w fun e w' => e = .returned (mdvV (x * num) den) ∧ Below w.heap.size w w' := by
  obtain ⟨V, hV⟩ : ∃ V, V = x * num := ⟨_, rfl⟩
  have HX := Lib.hid (fun w => r1_mag x w hx)
  have HN := Lib.hid (fun w => r1_mag num w hn)
  have HT := Lib.hid (fun w => r01_times x num w (by omega) (by omega))
  have HO := Lib.hid (fun w => r01_over V den w (by omega))
  have d1 : decide ((den : Int) < 1) = false := decide_eq_false (by omega)
  have n1 : decide ((x : Int) < 0) = false := decide_eq_false (by omega)
  have n2 : decide ((num : Int) < 0) = false := decide_eq_false (by omega)
  rw [← hV] at HT ⊢
  clear hV
  go_enter Try.func49, Try.ntmps49
  go_wp2_with fail
  refine (HX.out _).mono ?_
  rintro e w1 ⟨rfl, rfl⟩
  go_wp2_with fail
  refine (HN.out _).mono ?_
  rintro e w2 ⟨rfl, rfl⟩
  go_wp2_with fail
  refine (HT.out _).mono ?_
  rintro e w3 ⟨rfl, hb3⟩
  go_wp2_with fail
  refine (HO.out _).mono ?_
  rintro e w4 ⟨rfl, hb4⟩
  have B4 := hb3.trans (hb4.mono hb3.size)
  clear hb3 hb4
  rcases overV_two V den with ⟨hbig, hov⟩ | ⟨q, r, hq, hr, hov⟩
  · rw [hov]
    rcases mdvV_two V den with ⟨h1, _⟩ | ⟨_, h2⟩
    · exact absurd h1 (mdv_big (by omega) hbig)
    have H2 := Lib.hid h2
    clear hbig hov h2 HX HN HT HO
    go_wp2_with fail
    go_ret3
    exact ⟨congrArg Ending.returned H2.out.symm, B4⟩
  · rw [hov]
    have hm : r < den := by rw [hr]; exact Nat.mod_lt _ (by omega)
    have hmd := mdvV_two V den
    rw [← hq, ← hr] at hmd
    clear hov hq hr HX HN HT HO
    rcases hmd with ⟨h1, h2⟩ | ⟨h1, h2⟩
    · have H2 := Lib.hid h2
      have q1 : decide (9223372036854775808 < (q : Int)) = false := decide_eq_false (by omega)
      have q2 : decide (q ≤ 9223372036854775807) = true := decide_eq_true h1
      clear h2
      go_wp2_with fail
      refine (r01_signed_pos q _ (by omega)).mono ?_
      rintro e w5 ⟨y, rfl, hy, rfl⟩
      obtain rfl := hy h1
      rw [q2]
      clear hy
      go_wp2_with fail
      go_ret3
      exact ⟨congrArg Ending.returned H2.out.symm, B4⟩
    · have H2 := Lib.hid h2
      clear h2
      by_cases h3 : 9223372036854775808 < q
      · have q1 : decide (9223372036854775808 < (q : Int)) = true := decide_eq_true (by omega)
        go_wp2_with fail
        go_ret3
        exact ⟨congrArg Ending.returned H2.out.symm, B4⟩
      · have q1 : decide (9223372036854775808 < (q : Int)) = false := decide_eq_false (by omega)
        have q2 : decide (q ≤ 9223372036854775807) = false := decide_eq_false h1
        go_wp2_with fail
        refine (r01_signed_pos q _ (by omega)).mono ?_
        rintro e w5 ⟨y, rfl, hy, rfl⟩
        rw [q2]
        clear hy
        go_wp2_with fail
        go_ret3
        exact ⟨congrArg Ending.returned H2.out.symm, B4⟩
end Go.Proofs.Ytdnchjmopkhnaaa
