/- transport.arrival. -/
import Derived.Test.YtdnchjmopkhnaaaClkM
namespace Go.Proofs.Ytdnchjmopkhnaaa
open Go.RowKit
attribute [local go_sem ↓] Go.wp_at_zero Go.wp_at_succ

set_option maxHeartbeats 1000000 in
theorem tr_arrival (N B : Nat) (w : World) (h1 : 1 ≤ B) (h2 : B ≤ 1073741824) (hN : N ≤ 100000) :
    Calls Try.prog 51 #[.int .i64 (N : Int), .int .i64 (B : Int)] w fun e w' => e = .returned (.int .i64 ((arrN N B % 2576980377600 : Nat) : Int)) ∧ Below w.heap.size w w' := by
  have hs := arr_split N B (by omega)
  have hp := arr_part N B (by omega)
  have hq1 : N / B ≤ 100000 := Nat.le_trans (Nat.div_le_self _ _) hN
  have hr1 : N % B < B := Nat.mod_lt _ (by omega)
  obtain ⟨q, hq⟩ : ∃ q, N / B = q := ⟨_, rfl⟩
  obtain ⟨r, hr⟩ : ∃ r, N % B = r := ⟨_, rfl⟩
  have e1 : (N : Int).tdiv (B : Int) = (q : Int) := by rw [Int.tdiv_eq_ediv_of_nonneg (by omega), ← hq]; exact (Int.natCast_ediv N B).symm
  have e2 : (N : Int).tmod (B : Int) = (r : Int) := by rw [Int.tmod_eq_emod_of_nonneg (by omega), ← hr]; exact (Int.natCast_emod N B).symm
  have e3 : (N : Int) / (B : Int) = (q : Int) := by rw [← hq]; exact (Int.natCast_ediv N B).symm
  have e4 : (N : Int) % (B : Int) = (r : Int) := by rw [← hr]; exact (Int.natCast_emod N B).symm
  have bz1 : ¬ (B : Int) = 0 := by omega
  have bz2 : ¬ B = 0 := by omega
  have bz3 : ((B : Int) == 0) = false := by simp; omega
  rw [hq, hr] at hs
  rw [hr] at hp hr1
  rw [hq] at hq1
  have cm1 := fun w => rat_MulDivN q 40608000000 2576980377600 w (by omega) (by omega) (by omega) (by omega)
  have cm2 := fun w => rat_MulDivN r 40608000000 B w (by omega) (by omega) h1 (by omega)
  rcases mdvV_two (q * 40608000000) 2576980377600 with ⟨hf, ev⟩ | ⟨hf, ev⟩
  case inr => omega
  rcases mdvV_two (r * 40608000000) B with ⟨hf2, ev2⟩ | ⟨hf2, ev2⟩
  case inr => omega
  rw [ev] at cm1
  rw [ev2] at cm2
  obtain ⟨x, hx⟩ : ∃ x, q * 40608000000 % 2576980377600 = x := ⟨_, rfl⟩
  obtain ⟨y, hy⟩ : ∃ y, r * 40608000000 / B = y := ⟨_, rfl⟩
  obtain ⟨u, hu⟩ : ∃ y, r * 40608000000 % B = y := ⟨_, rfl⟩
  obtain ⟨v, hv⟩ : ∃ y, q * 40608000000 / 2576980377600 = y := ⟨_, rfl⟩
  rw [hx, hv] at cm1
  rw [hy, hu] at cm2
  rw [hy] at hs hp
  have hA : arrN N B % 2576980377600 = (x + y) % 2576980377600 := by omega
  have hx1 : x < 2576980377600 := by omega
  rw [hA]
  have w1 : IntKind.i64.wrap ((x : Int) + (y : Int)) = ((x + y : Nat) : Int) := by rw [IntWalk.i64_in _ (by omega)]; omega
  obtain ⟨z, hz⟩ : ∃ z, x + y = z := ⟨_, rfl⟩
  rw [hz] at w1 ⊢
  have z1 : (z : Int).tmod 2576980377600 = ((z % 2576980377600 : Nat) : Int) := by rw [Int.tmod_eq_emod_of_nonneg (by omega)]; omega
  have CM1 := Lib.hid cm1
  have CM2 := Lib.hid cm2
  have HQ1 := Lib.hid hq1
  clear hs hp hf hf2 ev ev2 cm1 cm2 hx hy hu hv hA hz hq hr
  go_enter Try.func51, Try.ntmps51
  go_wp2_with fail
  refine (CM1.out _).mono ?_
  rintro e w1 ⟨rfl, hb1⟩
  go_wp2_with fail
  refine (CM2.out _).mono ?_
  rintro e w2 ⟨rfl, hb2⟩
  go_wp2_with fail
  go_ret
  exact ⟨rfl, hb1.trans (hb2.mono hb1.size)⟩
end Go.Proofs.Ytdnchjmopkhnaaa
