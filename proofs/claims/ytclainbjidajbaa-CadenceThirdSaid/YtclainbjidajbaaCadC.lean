/- The contracts of Owner: the program's and the reference's. -/
import Derived.Test.YtclainbjidajbaaCadB
namespace Go.Proofs.Ytclainbjidajbaa
open Go.RowKit

def ownerF (s a b : Int) : Int := ((2 * s + 1) * a - 1) / (96000 * b)
def ownerV (s a b : Int) : Value := if usableR a b then (if -1099511627776 ≤ s ∧ s ≤ 1099511627776 then .tuple #[.int .i64 (ownerF s a b), .int .i64 0] else .tuple #[.int .i64 0, .int .i64 2]) else .tuple #[.int .i64 0, .int .i64 1]

theorem owner_bd {s a b : Int} (h : usableR a b = true) (h1 : -1099511627776 ≤ s) (h2 : s ≤ 1099511627776) :
    -2305843009214742528 ≤ (2 * s + 1) * a ∧ (2 * s + 1) * a ≤ 2305843009214742528 ∧ 1 ≤ a ∧ a ≤ 1048576 ∧ 1 ≤ b ∧ b ≤ 65536 := by
  simp only [usableR, decide_eq_true_eq] at h
  have e : ((2 * s + 1) * a).natAbs ≤ 2305843009214742528 := by
    rw [Int.natAbs_mul]
    have := Nat.mul_le_mul (show (2 * s + 1).natAbs ≤ 2199023255553 by omega) (show a.natAbs ≤ 1048576 by omega)
    omega
  omega
theorem div_bd {x y B : Int} (hy : 1 ≤ y) (h1 : -B ≤ x) (h2 : x ≤ B) (hB : 0 ≤ B) : -B ≤ x / y ∧ x / y ≤ B := by
  have := Int.mul_le_mul_of_nonneg_left hy hB
  constructor
  · apply Int.le_ediv_of_mul_le (by omega); rw [Int.neg_mul]; omega
  · apply Int.ediv_le_of_le_mul (by omega); omega

set_option maxHeartbeats 1000000 in
theorem cad_Owner (s a b : Int) (w : World) (ha : I64 a) (hb : I64 b) :
    Calls Try.prog 29 #[.int .i64 s, .agg #[.int .i64 a, .int .i64 b]] w fun e w' => e = .returned (ownerV s a b) ∧ Below w.heap.size w w' := by
  have u := fun w => cad_Usable a b w ha.lo ha.hi hb.lo hb.hi
  unfold ownerV
  by_cases h1 : usableR a b = true
  · rw [h1] at u
    rw [if_pos h1]
    have U := Lib.hid u
    clear u
    by_cases h2 : -1099511627776 ≤ s ∧ s ≤ 1099511627776
    · rw [if_pos h2]
      obtain ⟨l1, l2⟩ := h2
      obtain ⟨x1, x2, a1, a2, b1, b2⟩ := owner_bd h1 l1 l2
      have p := fun w => rat_MulDiv ((2 * s + 1) * a - 1) 1 (96000 * b) w (by omega) (by omega) (by omega) (by omega) (by omega) (by omega) (fun _ => div64_low (by omega) (by omega) (by omega))
      obtain ⟨f1, f2⟩ := div_bd (x := (2 * s + 1) * a - 1) (y := 96000 * b) (B := 2305843009214742529) (by omega) (by omega) (by omega) (by omega)
      have e1 : mulDivV (((2 * s + 1) * a - 1) * 1) (96000 * b) = .tuple #[.int .i64 (ownerF s a b), .int .i64 (((2 * s + 1) * a - 1) % (96000 * b)), .int .i64 0] := by
        unfold mulDivV ownerF; rw [Int.mul_one, if_pos (by simp only [fitsB, decide_eq_true_eq]; omega)]
      rw [e1] at p
      have P := Lib.hid p
      clear p e1 f1 f2 h1
      generalize ownerF s a b = q at *
      go_enter Try.func29, Try.ntmps29
      go_wp2_with fail
      refine (U.out _).mono ?_
      rintro e w1 ⟨rfl, hb1⟩
      obtain ⟨c_w1, z_w1⟩ := bcell hb1
      have s_w1 := hb1.size
      try simp at s_w1
      try simp at c_w1
      try simp at z_w1
      have q_w1_0 : w.heap.size < w1.heap.size := by omega
      go_wp2_with fail
      refine (P.out _).mono ?_
      rintro e w2 ⟨rfl, hb2⟩
      go_wp2_with fail
      go_ret2
      exact ⟨rfl, (((Below.refl _ w).alloc (Nat.le_refl _) _).trans (hb1.mono (by simp))).trans (hb2.mono (by omega))⟩
    · rw [if_neg h2]
      clear h1
      go_enter Try.func29, Try.ntmps29
      go_wp2_with fail
      refine (U.out _).mono ?_
      rintro e w1 ⟨rfl, hb1⟩
      obtain ⟨c_w1, z_w1⟩ := bcell hb1
      have s_w1 := hb1.size
      try simp at s_w1
      try simp at c_w1
      try simp at z_w1
      have q_w1_0 : w.heap.size < w1.heap.size := by omega
      go_wp2_with fail
      all_goals first
        | (go_ret2
           exact ⟨rfl, ((Below.refl _ w).alloc (Nat.le_refl _) _).trans (hb1.mono (by simp))⟩)
        | (exfalso; omega)
  · have h1' : usableR a b = false := by simpa using h1
    rw [h1'] at u
    rw [if_neg h1]
    have U := Lib.hid u
    clear u h1 h1'
    go_enter Try.func29, Try.ntmps29
    go_wp2_with fail
    refine (U.out _).mono ?_
    rintro e w1 ⟨rfl, hb1⟩
    go_wp2_with fail
    go_ret2
    exact ⟨rfl, ((Below.refl _ w).alloc (Nat.le_refl _) _).trans (hb1.mono (by simp))⟩

/-- The two loops of the reference: F is the greatest number with F * Y < X. -/
theorem owner_lo {n F X Y : Int} (hF2 : X ≤ (F + 1) * Y) (hY : 1 ≤ Y) (h : n * Y < X) : n ≤ F := by
  rcases (by omega : n ≤ F ∨ F + 1 ≤ n) with h' | h'
  · exact h'
  · have := Int.mul_le_mul_of_nonneg_right h' (show 0 ≤ Y by omega); omega
theorem owner_hi {n F X Y : Int} (hF : F * Y < X) (hY : 1 ≤ Y) (h : X ≤ n * Y) : F + 1 ≤ n := by
  rcases (by omega : n ≤ F ∨ F + 1 ≤ n) with h' | h'
  · have := Int.mul_le_mul_of_nonneg_right h' (show 0 ≤ Y by omega); omega
  · exact h'
theorem owner_F {X Y : Int} (hY : 1 ≤ Y) : (X - 1) / Y * Y < X ∧ X ≤ ((X - 1) / Y + 1) * Y := by
  have e := Int.mul_ediv_add_emod (X - 1) Y
  have g3 := Int.emod_nonneg (X - 1) (show Y ≠ 0 by omega)
  have g4 := Int.emod_lt_of_pos (X - 1) (show 0 < Y by omega)
  rw [Int.add_mul, Int.mul_comm ((X - 1) / Y) Y]
  omega
theorem owner_start {X Y : Int} (hY : 1 ≤ Y) : (X - 1) / Y ≤ X.tdiv Y ∧ X.tdiv Y ≤ (X - 1) / Y + 1 := by
  obtain ⟨h1, h2⟩ := owner_F (X := X) hY
  rcases (by omega : 0 ≤ X ∨ X < 0) with h | h
  · rw [Int.tdiv_eq_ediv_of_nonneg h]
    have e := Int.mul_ediv_add_emod X Y
    have g3 := Int.emod_nonneg X (show Y ≠ 0 by omega)
    have g4 := Int.emod_lt_of_pos X (show 0 < Y by omega)
    constructor
    · rcases (by omega : (X - 1) / Y ≤ X / Y ∨ X / Y + 1 ≤ (X - 1) / Y) with h' | h'
      · exact h'
      · have := Int.mul_le_mul_of_nonneg_right h' (show 0 ≤ Y by omega)
        rw [Int.add_mul, Int.mul_comm (X / Y) Y] at this; omega
    · rcases (by omega : X / Y ≤ (X - 1) / Y + 1 ∨ (X - 1) / Y + 1 + 1 ≤ X / Y) with h' | h'
      · exact h'
      · have := Int.mul_le_mul_of_nonneg_right h' (show 0 ≤ Y by omega)
        rw [Int.add_mul, Int.mul_comm (X / Y) Y] at this; omega
  · have e0 : X.tdiv Y = -((-X) / Y) := by
      rw [← Int.tdiv_eq_ediv_of_nonneg (by omega), Int.neg_tdiv, Int.neg_neg]
    rw [e0]
    have e := Int.mul_ediv_add_emod (-X) Y
    have g3 := Int.emod_nonneg (-X) (show Y ≠ 0 by omega)
    have g4 := Int.emod_lt_of_pos (-X) (show 0 < Y by omega)
    constructor
    · rcases (by omega : (X - 1) / Y ≤ -((-X) / Y) ∨ -((-X) / Y) + 1 ≤ (X - 1) / Y) with h' | h'
      · exact h'
      · have := Int.mul_le_mul_of_nonneg_right h' (show 0 ≤ Y by omega)
        rw [Int.add_mul, Int.neg_mul, Int.mul_comm ((-X) / Y) Y] at this; omega
    · rcases (by omega : -((-X) / Y) ≤ (X - 1) / Y + 1 ∨ (X - 1) / Y + 1 + 1 ≤ -((-X) / Y)) with h' | h'
      · exact h'
      · have := Int.mul_le_mul_of_nonneg_right h' (show 0 ≤ Y by omega)
        rw [Int.add_mul, Int.neg_mul, Int.mul_comm ((-X) / Y) Y] at this; omega

theorem owner_prod {n F X Y : Int} (hF : F * Y < X) (hF2 : X ≤ (F + 1) * Y) (h1 : F ≤ n) (h2 : n ≤ F + 1) (hY : 1 ≤ Y) (hY2 : Y ≤ 6291456000) (x1 : -2305843009214742528 ≤ X) (x2 : X ≤ 2305843009214742528) :
    -4611686018427387904 ≤ n * Y ∧ n * Y ≤ 4611686018427387904 := by
  rw [Int.add_mul] at hF2
  rcases (by omega : n = F ∨ n = F + 1) with rfl | rfl
  · omega
  · rw [Int.add_mul]; omega

def OwnA (F : Int) (t : Value) : Prop := ∃ n, F ≤ n ∧ n ≤ F + 1 ∧ t = .int .i64 n

end Go.Proofs.Ytclainbjidajbaa
