/- The contract of the reference's Compare. -/
import Derived.Test.YtepadbeijjefiaaCadAwake
namespace Go.Proofs.Ytepadbeijjefiaa
open Go.RowKit

def cmpF (x a b y c d : Int) : Int := if x * b * c < y * d * a then -1 else if x * b * c > y * d * a then 1 else 0

/-- x*b/a against y*d/c by wholes and rests. -/
theorem cmp_law {X Y a c : Int} (ha : 0 < a) (hc : 0 < c) :
    (X / a < Y / c → X * c < Y * a) ∧ (Y / c < X / a → Y * a < X * c) ∧ (X / a = Y / c → (X * c < Y * a ↔ X % a * c < Y % c * a) ∧ (Y * a < X * c ↔ Y % c * a < X % a * c)) := by
  have e1 := Int.mul_ediv_add_emod X a
  have e2 := Int.mul_ediv_add_emod Y c
  have g1 := Int.emod_nonneg X (show a ≠ 0 by omega)
  have g2 := Int.emod_lt_of_pos X ha
  have g3 := Int.emod_nonneg Y (show c ≠ 0 by omega)
  have g4 := Int.emod_lt_of_pos Y hc
  generalize X / a = p at *
  generalize X % a = r at *
  generalize Y / c = q at *
  generalize Y % c = t at *
  have eX : X * c = p * (a * c) + r * c := by rw [← e1, Int.add_mul, Int.mul_comm a p, Int.mul_assoc]
  have eY : Y * a = q * (a * c) + t * a := by rw [← e2, Int.add_mul, Int.mul_comm c q, Int.mul_assoc, Int.mul_comm c a]
  have hac := Int.mul_pos ha hc
  have hr : r * c < a * c := Int.mul_lt_mul_of_pos_right g2 hc
  have ht : t * a < a * c := by rw [Int.mul_comm a c]; exact Int.mul_lt_mul_of_pos_right g4 ha
  have hr0 := Int.mul_nonneg g1 (show 0 ≤ c by omega)
  have ht0 := Int.mul_nonneg g3 (show 0 ≤ a by omega)
  rw [eX, eY]
  generalize a * c = K at *
  refine ⟨fun h => ?_, fun h => ?_, fun h => ?_⟩
  · have := Int.mul_le_mul_of_nonneg_right (show p + 1 ≤ q by omega) (show 0 ≤ K by omega)
    rw [Int.add_mul] at this; omega
  · have := Int.mul_le_mul_of_nonneg_right (show q + 1 ≤ p by omega) (show 0 ≤ K by omega)
    rw [Int.add_mul] at this; omega
  · subst h; omega

set_option maxHeartbeats 1000000 in
theorem ref_Compare (x a b y c d : Int) (w : World) (x1 : -4294967296 < x) (x2 : x < 4294967296) (y1 : -4294967296 < y) (y2 : y < 4294967296) (a1 : 1 ≤ a) (a2 : a ≤ 1048576) (b1 : 1 ≤ b) (b2 : b ≤ 65536) (c1 : 1 ≤ c) (c2 : c ≤ 1048576) (d1 : 1 ≤ d) (d2 : d ≤ 65536) :
    Calls Try.prog 19 #[.int .i64 x, .agg #[.int .i64 a, .int .i64 b], .int .i64 y, .agg #[.int .i64 c, .int .i64 d]] w fun e w' => e = .returned (.int .i64 (cmpF x a b y c d)) ∧ Below w.heap.size w w' := by
  have bd : ∀ {u v z : Int}, -4294967296 < u → u < 4294967296 → 1 ≤ v → v ≤ 65536 → 1 ≤ z → (u.natAbs : Int) * v / z ≤ 9223372036854775807 := by
    intro u v z h1 h2 h3 h4 h5
    have m := mulDiv_lt (x := (u.natAbs : Int)) (y := v) (m := 4294967296) (n := 65536) (by omega) (by omega) (by omega) h4
    have := Int.ediv_le_self z m.1
    omega
  have p1 := fun w => ref_Split x b a w x1 x2 (by omega) (by omega) a1 (by omega) (bd x1 x2 b1 b2 a1)
  have p2 := fun w => ref_Split y d c w y1 y2 (by omega) (by omega) c1 (by omega) (bd y1 y2 d1 d2 c1)
  obtain ⟨k1, k2, k3⟩ := cmp_law (X := x * b) (Y := y * d) (a := a) (c := c) (by omega) (by omega)
  have g1 := Int.emod_nonneg (x * b) (show a ≠ 0 by omega)
  have g2 := Int.emod_lt_of_pos (x * b) (show 0 < a by omega)
  have g3 := Int.emod_nonneg (y * d) (show c ≠ 0 by omega)
  have g4 := Int.emod_lt_of_pos (y * d) (show 0 < c by omega)
  have m1 := mulDiv_lt (x := x * b % a) (y := c) (m := 1048576) (n := 1048576) g1 (by omega) (by omega) c2
  have m2 := mulDiv_lt (x := y * d % c) (y := a) (m := 1048576) (n := 1048576) g3 (by omega) (by omega) a2
  generalize x * b / a = p at *
  generalize y * d / c = q at *
  generalize x * b % a = r at *
  generalize y * d % c = t at *
  have P1 := Lib.hid p1
  have P2 := Lib.hid p2
  clear p1 p2 bd
  have fin : ∀ (z : Int), cmpF x a b y c d = z → Ending.returned (.int .i64 z) = .returned (.int .i64 (cmpF x a b y c d)) := fun z h => by rw [h]
  have FIN := Lib.hid fin
  clear fin
  rcases (by omega : p < q ∨ q < p ∨ p = q) with h | h | h
  · have k := k1 h
    have K := Lib.hid k
    have t0 : (p != q) = true := by simp; omega
    clear k k1 k2 k3
    go_enter Try.func19, Try.ntmps19
    go_wp2_with fail
    refine (P1.out _).mono ?_
    rintro e w1 ⟨rfl, m, rfl⟩
    go_wp2_with fail
    refine (P2.out _).mono ?_
    rintro e w2 ⟨rfl, m', rfl⟩
    go_wp2_with fail
    go_ret
    exact ⟨FIN.out _ (by unfold cmpF; rw [if_pos K.out]), below_drewN (((Below.refl _ w).alloc (Nat.le_refl _) _).alloc (by simp) _) _⟩
  · have k := k2 h
    have K := Lib.hid k
    have d0 : decide (p < q) = false := by simp; omega
    have t0 : (p != q) = true := by simp; omega
    clear k k1 k2 k3
    go_enter Try.func19, Try.ntmps19
    go_wp2_with fail
    refine (P1.out _).mono ?_
    rintro e w1 ⟨rfl, m, rfl⟩
    go_wp2_with fail
    refine (P2.out _).mono ?_
    rintro e w2 ⟨rfl, m', rfl⟩
    go_wp2_with fail
    go_ret
    exact ⟨FIN.out _ (by unfold cmpF; rw [if_neg (by have := K.out; omega), if_pos K.out]), below_drewN (((Below.refl _ w).alloc (Nat.le_refl _) _).alloc (by simp) _) _⟩
  · obtain ⟨k4, k5⟩ := k3 h
    subst h
    have K4 := Lib.hid k4
    have K5 := Lib.hid k5
    clear k1 k2 k3 k4 k5
    rcases (by omega : r * c < t * a ∨ t * a < r * c ∨ r * c = t * a) with h' | h' | h'
    · go_enter Try.func19, Try.ntmps19
      go_wp2_with fail
      refine (P1.out _).mono ?_
      rintro e w1 ⟨rfl, m, rfl⟩
      go_wp2_with fail
      refine (P2.out _).mono ?_
      rintro e w2 ⟨rfl, m', rfl⟩
      go_wp2_with fail
      go_ret
      exact ⟨FIN.out _ (by unfold cmpF; rw [if_pos (K4.out.2 h')]), below_drewN (((Below.refl _ w).alloc (Nat.le_refl _) _).alloc (by simp) _) _⟩
    · have h'' : ¬ r * c < t * a := by omega
      go_enter Try.func19, Try.ntmps19
      go_wp2_with fail
      refine (P1.out _).mono ?_
      rintro e w1 ⟨rfl, m, rfl⟩
      go_wp2_with fail
      refine (P2.out _).mono ?_
      rintro e w2 ⟨rfl, m', rfl⟩
      go_wp2_with fail
      go_ret
      exact ⟨FIN.out _ (by unfold cmpF; rw [if_neg (fun h => by have := K4.out.1 h; omega), if_pos (K5.out.2 h')]), below_drewN (((Below.refl _ w).alloc (Nat.le_refl _) _).alloc (by simp) _) _⟩
    · have h1 : ¬ r * c < t * a := by omega
      have h2 : ¬ t * a < r * c := by omega
      clear h'
      go_enter Try.func19, Try.ntmps19
      go_wp2_with fail
      refine (P1.out _).mono ?_
      rintro e w1 ⟨rfl, m, rfl⟩
      go_wp2_with fail
      refine (P2.out _).mono ?_
      rintro e w2 ⟨rfl, m', rfl⟩
      go_wp2_with fail
      go_ret
      exact ⟨FIN.out _ (by unfold cmpF; rw [if_neg (fun h => by have := K4.out.1 h; omega), if_neg (fun h => by have := K5.out.1 h; omega)]), below_drewN (((Below.refl _ w).alloc (Nat.le_refl _) _).alloc (by simp) _) _⟩
end Go.Proofs.Ytepadbeijjefiaa
