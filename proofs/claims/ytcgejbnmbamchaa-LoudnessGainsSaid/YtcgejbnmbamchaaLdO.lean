/- rational.Of of numbers that are not negative. -/
import Derived.Test.YtcgejbnmbamchaaLdG
namespace Go.Proofs.Ytcgejbnmbamchaa
open Go.RowKit

/-- num/den in lowest terms. -/
def lowN (num den : Nat) : Int := (num / Nat.gcd num den : Nat)
def lowD (num den : Nat) : Int := (den / Nat.gcd num den : Nat)
set_option maxRecDepth 100000 in
set_option maxHeartbeats 2000000 in
theorem rat_Of (num den : Nat) (w : World) (h1 : num ≤ 9223372036854775807) (h2 : 0 < den) (h3 : den ≤ 9223372036854775807) :
    Calls Try.prog 45 #[.int .i64 (num : Int), .int .i64 (den : Int)] w fun e w' => e = .returned (.tuple #[.agg #[.int .i64 (lowN num den), .int .i64 (lowD num den)], .int .i64 0]) ∧ Below w.heap.size w w' := by
  have hg : 0 < Nat.gcd num den := Nat.gcd_pos_of_pos_right _ h2
  obtain ⟨g, hgg⟩ : ∃ g, g = Nat.gcd num den := ⟨_, rfl⟩
  obtain ⟨a, ha⟩ : ∃ a, a = num / g := ⟨_, rfl⟩
  obtain ⟨b, hb⟩ : ∃ b, b = den / g := ⟨_, rfl⟩
  have hln : lowN num den = a := by rw [ha, hgg]; rfl
  have hld : lowD num den = b := by rw [hb, hgg]; rfl
  have hab : a ≤ num := by rw [ha]; exact Nat.div_le_self _ _
  have hbb : b ≤ den := by rw [hb]; exact Nat.div_le_self _ _
  have hgd : g ≤ den := by rw [hgg]; exact Nat.gcd_le_right _ h2
  rw [← hgg] at hg
  rw [hln, hld]
  have q1 : ((num : Int)) / (g : Int) = (a : Int) := by rw [ha]; exact_mod_cast rfl
  have q2 : ((den : Int)) / (g : Int) = (b : Int) := by rw [hb]; exact_mod_cast rfl
  have hz2 : ((g : Int) == 0) = false := by simp; omega
  have hdz : ((den : Int) == 0) = false := by simp; omega
  have HG := Lib.hid hgg
  clear ha hb hln hld hgg
  go_enter Try.func45, Try.ntmps45
  go_wp2_with fail
  refine (rat_magnitude' _ _ (by omega) (by omega)).mono ?_
  rintro e w1 ⟨rfl, rfl⟩
  go_wp2_with fail
  refine (rat_magnitude' _ _ (by omega) (by omega)).mono ?_
  rintro e w2 ⟨rfl, rfl⟩
  go_wp2_with fail
  refine (rat_gcd num den _ (by omega) (by omega)).mono ?_
  rintro e w3 ⟨rfl, m, rfl⟩
  rw [← HG.out]
  go_wp2_with fail
  have hz3 : ¬ g = 0 := by omega
  have x1 : Bx ((w.alloc (.cells #[.int .i64 0, .int .i64 0] 38)).drewN m) w.heap.size 38 #[.int .i64 0, .int .i64 0] := Bx.new w _ _
  have hB := bdrewN ((Below.refl _ w).alloc (Nat.le_refl _) (.cells #[.int .i64 0, .int .i64 0] 38)) m
  generalize (w.alloc (.cells #[.int .i64 0, .int .i64 0] 38)).drewN m = W at *
  go_quiet (fail)
  rename_i nq
  have x1 := x1.drewN nq
  have hB := bdrewN hB nq
  generalize W.drewN nq = W2 at *
  have l1 := x1.lt
  have hkb : decide (9223372036854775807 < (b : Int)) = false := decide_eq_false (by omega)
  have n1 := Bx.new W2 38 #[.int .i64 a, .int .i64 b]
  have d0 := n1.cell 0 rfl
  have d1 := n1.cell 1 rfl
  have x3 := x1.alloc (.cells #[.int .i64 a, .int .i64 b] 38)
  have g0 := x3.cell 0 rfl
  have g1 := x3.cell 1 rfl
  have f0 := x3.frozen 0
  have f1 := x3.frozen 1
  have hB2 := hB.alloc hB.size (.cells #[.int .i64 a, .int .i64 b] 38)
  go_upto_region 9 with fail
  generalize W2.alloc (.cells #[.int .i64 a, .int .i64 b] 38) = W3 at *
  have l3 := x3.lt
  have n3 := n1.lt
  have hBZ := bset (bset hB2 ⟨w.heap.size, 0, none⟩ (Nat.le_refl _) (.int .i64 a)) ⟨w.heap.size, 1, none⟩ (Nat.le_refl _) (.int .i64 b)
  have HBZ := Lib.hid hBZ
  clear hBZ hB hB2 l1 x1
  go_wp2_with fail
  refine bodyPost_ret (v := .tuple #[.agg #[.int .i64 a, .int .i64 b], .int .i64 0]) (by simp only [results, Try.results45]; go_simp) rfl ⟨rfl, HBZ.out⟩
end Go.Proofs.Ytcgejbnmbamchaa
