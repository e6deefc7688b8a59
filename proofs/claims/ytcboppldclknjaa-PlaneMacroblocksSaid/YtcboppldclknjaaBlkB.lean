/- The contracts of place and its reference. -/
import Derived.Test.YtcboppldclknjaaBlkA
namespace Go.Proofs.Ytcboppldclknjaa
open Go.RowKit

theorem mul_bd2 {x y m k : Int} (hx0 : 0 ≤ x) (hx : x ≤ m) (hy0 : 0 ≤ y) (hy : y ≤ k) (hm : 0 ≤ m) : 0 ≤ x * y ∧ x * y ≤ m * k :=
  ⟨Int.mul_nonneg hx0 hy0, Int.mul_le_mul hx hy hy0 hm⟩
theorem ret_area {a b a' b' : Int} (ha : a = a') (hb : b = b') : Ending.returned (.agg #[.int .i64 a, .int .i64 b, .int .i64 8, .int .i64 8]) = .returned (.agg #[.int .i64 a', .int .i64 b', .int .i64 8, .int .i64 8]) := by rw [ha, hb]
set_option maxHeartbeats 4000000 in
theorem plane_place (cw mx my n : Nat) (fd : Bool) (w : World) (w2 : cw ≤ 64) (x2 : mx ≤ 3) (y2 : my ≤ 3) (hn : n ≤ 5) :
    Calls Try.prog 53 #[.int .i64 cw, .int .i64 mx, .int .i64 my, .int .i64 n, .bool fd] w fun e w' => e = .returned (.agg #[.int .i64 (fromN cw mx my n fd : Nat), .int .i64 (stepN cw n fd : Nat), .int .i64 8, .int .i64 8]) ∧ Below w.heap.size w w' := by
  have m1 := mul_bd2 (x := 16 * (my : Int)) (y := (cw : Int)) (m := 48) (k := 64) (by omega) (by omega) (by omega) (by omega) (by omega)
  have m2 := mul_bd2 (x := 8 * (my : Int)) (y := (cw : Int) / 2) (m := 48) (k := 64) (by omega) (by omega) (by omega) (by omega) (by omega)
  have m3 := mul_bd2 (x := (n : Int) / 2) (y := (cw : Int)) (m := 48) (k := 64) (by omega) (by omega) (by omega) (by omega) (by omega)
  have m4 := mul_bd2 (x := (n : Int) / 2 * 8) (y := (cw : Int)) (m := 48) (k := 64) (by omega) (by omega) (by omega) (by omega) (by omega)
  by_cases h : 4 ≤ n
  · have e1 : (8 * (my : Int) * ((cw : Int) / 2) + 8 * (mx : Int)) = ((fromN cw mx my n fd : Nat) : Int) := by unfold fromN; rw [if_pos h]; push_cast; rfl
    have e2 : ((cw : Int) / 2) = ((stepN cw n fd : Nat) : Int) := by unfold stepN; rw [if_pos h]; push_cast; rfl
    have E1 := Lib.hid e1
    have E2 := Lib.hid e2
    clear e1 e2
    have h' : (4 : Int) ≤ (n : Int) := by omega
    go_enter Try.func53, Try.ntmps53
    go_wp2_with fail
    refine (plane_macroblock _ _ _ _ (by omega) (by omega) (by omega) (by omega) (by omega) (by omega)).mono ?_
    rintro e w1 ⟨rfl, hb1⟩
    have B1 : Below w.heap.size w w1 := ((Below.refl _ w).alloc (by simp) _).trans (hb1.mono (by simp))
    have B1s := B1.size
    obtain ⟨c_w1, z_w1⟩ := bcell hb1
    have s_w1 := hb1.size
    try simp at s_w1
    try simp at c_w1
    try simp at z_w1
    have q_w1_0 : w.heap.size < w1.heap.size := by omega
    go_wp2_with fail
    refine bodyPost_ret (v := .agg #[.int .i64 (8 * (my : Int) * ((cw : Int) / 2) + 8 * (mx : Int)), .int .i64 ((cw : Int) / 2), .int .i64 8, .int .i64 8]) (by simp only [results, Try.results53]; go_simp) rfl ⟨ret_area E1.out E2.out, ?_⟩
    repeat (first | (with_reducible exact B1) | (with_reducible refine Below.setCell ?_ (by first | (simp; done) | (simp; omega)) _) | (with_reducible refine Below.alloc ?_ (by first | (simp; done) | (simp; omega)) _) | (with_reducible refine Below.drew ?_))
  · have h' : ¬ (4 : Int) ≤ (n : Int) := by omega
    cases fd
    · have e1 : (16 * (my : Int) * (cw : Int) + 16 * (mx : Int) + (n : Int) % 2 * 8 + (n : Int) / 2 * 8 * (cw : Int)) = ((fromN cw mx my n false : Nat) : Int) := by unfold fromN; rw [if_neg h, if_neg (by decide)]; push_cast; rfl
      have e2 : (cw : Int) = ((stepN cw n false : Nat) : Int) := by unfold stepN; rw [if_neg h, if_neg (by decide)]
      have E1 := Lib.hid e1
      have E2 := Lib.hid e2
      clear e1 e2
      go_enter Try.func53, Try.ntmps53
      go_wp2_with fail
      refine (plane_macroblock _ _ _ _ (by omega) (by omega) (by omega) (by omega) (by omega) (by omega)).mono ?_
      rintro e w1 ⟨rfl, hb1⟩
      have B1 : Below w.heap.size w w1 := ((Below.refl _ w).alloc (by simp) _).trans (hb1.mono (by simp))
      have B1s := B1.size
      obtain ⟨c_w1, z_w1⟩ := bcell hb1
      have s_w1 := hb1.size
      try simp at s_w1
      try simp at c_w1
      try simp at z_w1
      have q_w1_0 : w.heap.size < w1.heap.size := by omega
      go_wp2_with fail
      refine bodyPost_ret (v := .agg #[.int .i64 (16 * (my : Int) * (cw : Int) + 16 * (mx : Int) + (n : Int) % 2 * 8 + (n : Int) / 2 * 8 * (cw : Int)), .int .i64 (cw : Int), .int .i64 8, .int .i64 8]) (by simp only [results, Try.results53]; go_simp) rfl ⟨ret_area E1.out E2.out, ?_⟩
      repeat (first | (with_reducible exact B1) | (with_reducible refine Below.setCell ?_ (by first | (simp; done) | (simp; omega)) _) | (with_reducible refine Below.alloc ?_ (by first | (simp; done) | (simp; omega)) _) | (with_reducible refine Below.drew ?_))
    · have e1 : (16 * (my : Int) * (cw : Int) + 16 * (mx : Int) + (n : Int) % 2 * 8 + (n : Int) / 2 * (cw : Int)) = ((fromN cw mx my n true : Nat) : Int) := by unfold fromN; rw [if_neg h, if_pos rfl]; push_cast; rfl
      have e2 : 2 * (cw : Int) = ((stepN cw n true : Nat) : Int) := by unfold stepN; rw [if_neg h, if_pos rfl]; push_cast; rfl
      have E1 := Lib.hid e1
      have E2 := Lib.hid e2
      clear e1 e2
      go_enter Try.func53, Try.ntmps53
      go_wp2_with fail
      refine (plane_macroblock _ _ _ _ (by omega) (by omega) (by omega) (by omega) (by omega) (by omega)).mono ?_
      rintro e w1 ⟨rfl, hb1⟩
      have B1 : Below w.heap.size w w1 := ((Below.refl _ w).alloc (by simp) _).trans (hb1.mono (by simp))
      have B1s := B1.size
      obtain ⟨c_w1, z_w1⟩ := bcell hb1
      have s_w1 := hb1.size
      try simp at s_w1
      try simp at c_w1
      try simp at z_w1
      have q_w1_0 : w.heap.size < w1.heap.size := by omega
      go_wp2_with fail
      refine bodyPost_ret (v := .agg #[.int .i64 (16 * (my : Int) * (cw : Int) + 16 * (mx : Int) + (n : Int) % 2 * 8 + (n : Int) / 2 * (cw : Int)), .int .i64 (2 * (cw : Int)), .int .i64 8, .int .i64 8]) (by simp only [results, Try.results53]; go_simp) rfl ⟨ret_area E1.out E2.out, ?_⟩
      repeat (first | (with_reducible exact B1) | (with_reducible refine Below.setCell ?_ (by first | (simp; done) | (simp; omega)) _) | (with_reducible refine Below.alloc ?_ (by first | (simp; done) | (simp; omega)) _) | (with_reducible refine Below.drew ?_))

theorem ret_i64 {a b : Int} (h : a = b) : Ending.returned (.int .i64 a) = .returned (.int .i64 b) := by rw [h]
set_option maxHeartbeats 1000000 in
theorem ref_Place (cw mx my n k : Nat) (fd : Bool) (w : World) (w2 : cw ≤ 64) (x2 : mx ≤ 3) (y2 : my ≤ 3) (hn : n ≤ 5) (hk : k < 64) :
    Calls Try.prog 56 #[.int .i64 cw, .int .i64 mx, .int .i64 my, .int .i64 n, .bool fd, .int .i64 k] w fun e w' => e = .returned (.int .i64 (placeN cw mx my n fd k : Nat)) ∧ w = w' := by
  have m1 := mul_bd2 (x := 8 * (my : Int) + (k : Int) / 8) (y := (cw : Int) / 2) (m := 64) (k := 64) (by omega) (by omega) (by omega) (by omega) (by omega)
  have m2 := mul_bd2 (x := 16 * (my : Int) + (8 * ((n : Int) / 2) + (k : Int) / 8)) (y := (cw : Int)) (m := 100) (k := 64) (by omega) (by omega) (by omega) (by omega) (by omega)
  have m3 := mul_bd2 (x := 16 * (my : Int) + (2 * ((k : Int) / 8) + (n : Int) / 2)) (y := (cw : Int)) (m := 100) (k := 64) (by omega) (by omega) (by omega) (by omega) (by omega)
  by_cases h : 4 ≤ n
  · have h' : (4 : Int) ≤ (n : Int) := by omega
    go_enter Try.func56, Try.ntmps56
    go_wp2
    go_ret
    exact ⟨ret_i64 (by unfold placeN; rw [if_pos h]; push_cast; rfl), rfl⟩
  · have h' : ¬ (4 : Int) ≤ (n : Int) := by omega
    cases fd
    · go_enter Try.func56, Try.ntmps56
      go_wp2
      go_ret
      exact ⟨ret_i64 (by unfold placeN; rw [if_neg h, if_neg (by decide)]; push_cast; rfl), rfl⟩
    · go_enter Try.func56, Try.ntmps56
      go_wp2
      go_ret
      exact ⟨ret_i64 (by unfold placeN; rw [if_neg h, if_pos rfl]; push_cast; rfl), rfl⟩
end Go.Proofs.Ytcboppldclknjaa
