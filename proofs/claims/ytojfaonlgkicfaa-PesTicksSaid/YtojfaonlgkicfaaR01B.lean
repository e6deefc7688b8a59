/- The contracts of the reference of package rational: numbers of 128 bits. -/
import Derived.Test.YtojfaonlgkicfaaR01A
namespace Go.Proofs.Ytojfaonlgkicfaa
open Go.RowKit

def w2V (V : Nat) : Value := .agg #[.int .u64 ((V / 18446744073709551616 : Nat) : Int), .int .u64 ((V % 18446744073709551616 : Nat) : Int)]
theorem w2_eq {V H L : Nat} (h1 : V / 18446744073709551616 = H) (h2 : V % 18446744073709551616 = L) : (.agg #[.int .u64 (H : Int), .int .u64 (L : Int)] : Value) = w2V V := by unfold w2V; rw [h1, h2]
theorem w2_small (n : Nat) (h : n < 18446744073709551616) : w2V n = .agg #[.int .u64 0, .int .u64 (n : Int)] := by
  unfold w2V; rw [Nat.div_eq_of_lt h, Nat.mod_eq_of_lt h]; rfl
theorem w2_open (V : Nat) : ∃ H L : Nat, w2V V = .agg #[.int .u64 (H : Int), .int .u64 (L : Int)] ∧ V / 18446744073709551616 = H ∧ V % 18446744073709551616 = L := ⟨_, _, rfl, rfl, rfl⟩

set_option maxHeartbeats 1000000 in
theorem r01_times (x y : Nat) (w : World) (hx : x < 18446744073709551616) (hy : y < 18446744073709551616) :
    Calls Try.prog 46 #[.int .u64 x, .int .u64 y] w fun e w' => e = .returned (w2V (x * y)) ∧ Below w.heap.size w w' := by
  have hm := fun w => bits_Mul64 x y hx hy w
  obtain ⟨H, L, e, hH, hL⟩ := w2_open (x * y)
  rw [hH, hL] at hm
  rw [e]
  have HM := Lib.hid hm
  clear hm hH hL e
  go_enter Try.func46, Try.ntmps46
  go_wp2_with fail
  refine (HM.out _).mono ?_
  rintro e w1 ⟨rfl, rfl⟩
  go_wp2_with fail
  refine bodyPost_ret (v := .agg #[.int .u64 (H : Int), .int .u64 (L : Int)]) (by simp [results, Try.results46, go_sem]) rfl ⟨rfl, ?_⟩
  exact (Below.refl _ _).alloc (Nat.le_refl _) _

set_option maxHeartbeats 1000000 in
theorem r01_plus (A B : Nat) (w : World) (h : A + B < 340282366920938463463374607431768211456) :
    Calls Try.prog 47 #[w2V A, w2V B] w fun e w' => e = .returned (w2V (A + B)) ∧ Below w.heap.size w w' := by
  obtain ⟨h1, l1, e1, p1, p2⟩ := w2_open A
  obtain ⟨h2, l2, e2, p3, p4⟩ := w2_open B
  rw [e1, e2]
  have a1 := run_bitsAdd64 (l1 : Int) l2 0 (by omega) (by omega) (by omega) (by omega)
  obtain ⟨L, hL⟩ : ∃ L : Nat, (l1 + l2) % 18446744073709551616 = L := ⟨_, rfl⟩
  obtain ⟨C, hC⟩ : ∃ C : Nat, (l1 + l2) / 18446744073709551616 = C := ⟨_, rfl⟩
  rw [show ((l1 : Int) + l2 + 0) % 18446744073709551616 = (L : Int) by omega, show ((l1 : Int) + l2 + 0) / 18446744073709551616 = (C : Int) by omega] at a1
  have a2 := run_bitsAdd64 (h1 : Int) h2 C (by omega) (by omega) (by omega) (by omega)
  obtain ⟨H, hH⟩ : ∃ H : Nat, (h1 + h2 + C) % 18446744073709551616 = H := ⟨_, rfl⟩
  obtain ⟨D, hD⟩ : ∃ D : Nat, (h1 + h2 + C) / 18446744073709551616 = D := ⟨_, rfl⟩
  rw [show ((h1 : Int) + h2 + C) % 18446744073709551616 = (H : Int) by omega, show ((h1 : Int) + h2 + C) / 18446744073709551616 = (D : Int) by omega] at a2
  have hv := w2_eq (V := A + B) (H := H) (L := L) (by omega) (by omega)
  rw [← hv]
  clear hL hC hH hD hv e1 e2 p1 p2 p3 p4 h
  go_enter Try.func47, Try.ntmps47
  go_wp2_with fail
  refine bodyPost_ret (v := .agg #[.int .u64 (H : Int), .int .u64 (L : Int)]) (by simp [results, Try.results47, go_sem]) rfl ⟨rfl, ?_⟩
  exact (((Below.refl _ _).alloc (Nat.le_refl _) _).alloc (by simp) _).alloc (by simp; omega) _

set_option maxHeartbeats 1000000 in
theorem r01_minus (A B : Nat) (w : World) (h : B ≤ A) (hA : A < 340282366920938463463374607431768211456) :
    Calls Try.prog 49 #[w2V A, w2V B] w fun e w' => e = .returned (w2V (A - B)) ∧ Below w.heap.size w w' := by
  obtain ⟨h1, l1, e1, p1, p2⟩ := w2_open A
  obtain ⟨h2, l2, e2, p3, p4⟩ := w2_open B
  rw [e1, e2]
  have a1 := run_bitsSub64 l1 l2 0 (by omega)
  obtain ⟨L, hL⟩ : ∃ L : Nat, (l1 + 18446744073709551616 - l2 - 0) % 18446744073709551616 = L := ⟨_, rfl⟩
  obtain ⟨C, hC⟩ : ∃ C : Nat, (if l1 < l2 + 0 then 1 else 0 : Nat) = C := ⟨_, rfl⟩
  have bC : C ≤ 1 := by rw [← hC]; split <;> omega
  have eC : L + l2 = l1 + C * 18446744073709551616 := by rw [← hC]; split <;> omega
  rw [hL, hC] at a1
  have a2 := run_bitsSub64 h1 h2 C bC
  obtain ⟨H, hH⟩ : ∃ H : Nat, (h1 + 18446744073709551616 - h2 - C) % 18446744073709551616 = H := ⟨_, rfl⟩
  obtain ⟨D, hD⟩ : ∃ D : Nat, (if h1 < h2 + C then 1 else 0 : Nat) = D := ⟨_, rfl⟩
  rw [hH, hD] at a2
  have hle : h2 + C ≤ h1 := by omega
  have eH : H + h2 + C = h1 := by omega
  have hv := w2_eq (V := A - B) (H := H) (L := L) (by omega) (by omega)
  rw [← hv]
  have a1' : ∀ w, (callFunc 61 #[.int .u64 l1, .int .u64 l2, .int .u64 0]).run Try.prog w = .ok (.value (.tuple #[.int .u64 (L : Int), .int .u64 (C : Int)])) w := a1
  clear hL hC hH hD hv e1 e2 p1 p2 p3 p4 h bC eC hle eH a1 hA
  go_enter Try.func49, Try.ntmps49
  go_wp2_with fail
  refine bodyPost_ret (v := .agg #[.int .u64 (H : Int), .int .u64 (L : Int)]) (by simp [results, Try.results49, go_sem]) rfl ⟨rfl, ?_⟩
  exact (((Below.refl _ _).alloc (Nat.le_refl _) _).alloc (by simp) _).alloc (by simp; omega) _

set_option maxHeartbeats 1000000 in
theorem r01_less (A B : Nat) (w : World) :
    Calls Try.prog 48 #[w2V A, w2V B] w fun e w' => e = .returned (.bool (decide (A < B))) ∧ Below w.heap.size w w' := by
  obtain ⟨h1, l1, e1, p1, p2⟩ := w2_open A
  obtain ⟨h2, l2, e2, p3, p4⟩ := w2_open B
  rw [e1, e2]
  have done : ∀ b : Bool, b = decide (A < B) → Ending.returned (.bool b) = .returned (.bool (decide (A < B))) := fun b h => by rw [h]
  rcases (by omega : h1 < h2 ∨ h2 < h1 ∨ h1 = h2 ∧ l1 < l2 ∨ h1 = h2 ∧ l2 ≤ l1) with hc | hc | ⟨rfl, hc⟩ | ⟨rfl, hc⟩
  · have hv : decide (A < B) = true := by simp; omega
    rw [hv]
    clear hv done e1 e2 p1 p2 p3 p4
    go_enter Try.func48, Try.ntmps48
    go_wp2_with fail
    go_ret
    exact ⟨rfl, ((Below.refl _ _).alloc (Nat.le_refl _) _).alloc (by simp) _⟩
  · have hv : decide (A < B) = false := by simp; omega
    rw [hv]
    have t1 : ((h1 : Int) == (h2 : Int)) = false := by simp; omega
    have t2 : decide (h1 < h2) = false := by simp; omega
    clear hv done e1 e2 p1 p2 p3 p4
    go_enter Try.func48, Try.ntmps48
    go_wp2_with fail
    go_ret
    exact ⟨rfl, ((Below.refl _ _).alloc (Nat.le_refl _) _).alloc (by simp) _⟩
  · have hv : decide (A < B) = true := by simp; omega
    rw [hv]
    clear hv done e1 e2 p1 p2 p3 p4
    go_enter Try.func48, Try.ntmps48
    go_wp2_with fail
    go_ret
    exact ⟨ret_bool (by first | rfl | (simp; done) | (simp; omega)), ((Below.refl _ _).alloc (Nat.le_refl _) _).alloc (by simp) _⟩
  · have hv : decide (A < B) = false := by simp; omega
    rw [hv]
    clear hv done e1 e2 p1 p2 p3 p4
    go_enter Try.func48, Try.ntmps48
    go_wp2_with fail
    go_ret
    exact ⟨ret_bool (by first | rfl | (simp; done) | (simp; omega)), ((Below.refl _ _).alloc (Nat.le_refl _) _).alloc (by simp) _⟩

def overV (V den : Nat) : Value := if den ≤ V / 18446744073709551616 then .tuple #[.int .u64 0, .int .u64 0, .bool false] else .tuple #[.int .u64 ((V / den : Nat) : Int), .int .u64 ((V % den : Nat) : Int), .bool true]
set_option maxHeartbeats 1000000 in
theorem r01_over (V den : Nat) (w : World) (hd : den < 18446744073709551616) :
    Calls Try.prog 50 #[w2V V, .int .u64 (den : Int)] w fun e w' => e = .returned (overV V den) ∧ Below w.heap.size w w' := by
  have hO : V / 18446744073709551616 < den → Div64Ok V den := fun h => div64_ok h hd
  obtain ⟨H, L, e1, p1, p2⟩ := w2_open V
  rw [e1]
  by_cases hc : den ≤ H
  · rw [show overV V den = .tuple #[.int .u64 0, .int .u64 0, .bool false] by unfold overV; rw [if_pos (by omega)]]
    clear e1 p1 p2 hO
    go_enter Try.func50, Try.ntmps50
    go_wp2_with fail
    go_ret3
    exact ⟨rfl, (Below.refl _ _).alloc (Nat.le_refl _) _⟩
  · rw [show overV V den = .tuple #[.int .u64 ((V / den : Nat) : Int), .int .u64 ((V % den : Nat) : Int), .bool true] by unfold overV; rw [if_neg (by omega)]]
    have hD := hO (by omega)
    unfold Div64Ok at hD
    rw [p1, p2] at hD
    obtain ⟨q, hq⟩ : ∃ q, V / den = q := ⟨_, rfl⟩
    obtain ⟨r, hr⟩ : ∃ q, V % den = q := ⟨_, rfl⟩
    rw [hq, hr] at hD ⊢
    have HD := Lib.hid hD
    clear e1 p1 p2 hO hD hq hr
    go_enter Try.func50, Try.ntmps50
    go_wp2_with fail
    refine (HD.out _).mono ?_
    rintro e w1 ⟨rfl, m, rfl⟩
    go_wp2_with fail
    go_ret3
    exact ⟨rfl, below_drewN ((Below.refl _ _).alloc (Nat.le_refl _) _) _⟩

/-- q with a sign, and whether it is an int64. -/
theorem r01_signed_pos (q : Nat) (w : World) (hq : q ≤ 9223372036854775808) :
    Calls Try.prog 51 #[.bool false, .int .u64 (q : Int)] w fun e w' => ∃ x : Int, e = .returned (.tuple #[.int .i64 x, .bool (decide (q ≤ 9223372036854775807))]) ∧ (q ≤ 9223372036854775807 → x = q) ∧ w = w' := by
  by_cases hc : q ≤ 9223372036854775807
  · rw [show decide (q ≤ 9223372036854775807) = true by simpa using hc]
    have td : decide ((q : Int) ≤ 9223372036854775807) = true := by simp; omega
    go_enter Try.func51, Try.ntmps51
    go_wp2_with fail
    go_ret2
    exact ⟨(q : Int), rfl, fun _ => rfl, rfl⟩
  · obtain rfl : q = 9223372036854775808 := by omega
    go_enter Try.func51, Try.ntmps51
    go_wp2_with fail
    go_ret2
    exact ⟨_, rfl, fun h => by omega, rfl⟩
theorem r01_signed_neg (q : Nat) (w : World) (hq : q ≤ 9223372036854775809) :
    Calls Try.prog 51 #[.bool true, .int .u64 (q : Int)] w fun e w' => ∃ x : Int, e = .returned (.tuple #[.int .i64 x, .bool (decide (q ≤ 9223372036854775808))]) ∧ (q ≤ 9223372036854775808 → x = -(q : Int)) ∧ w = w' := by
  by_cases hc : q ≤ 9223372036854775807
  · rw [show decide (q ≤ 9223372036854775808) = true by simp; omega]
    have td : decide ((q : Int) ≤ 9223372036854775807) = true := by simp; omega
    have t1 : ((q : Int) == 9223372036854775808) = false := by simp; omega
    go_enter Try.func51, Try.ntmps51
    go_wp2_with fail
    go_ret2
    exact ⟨-(q : Int), rfl, fun _ => rfl, rfl⟩
  · rcases (by omega : q = 9223372036854775808 ∨ q = 9223372036854775809) with rfl | rfl
    · go_enter Try.func51, Try.ntmps51
      go_wp2_with fail
      go_ret2
      exact ⟨_, rfl, fun _ => rfl, rfl⟩
    · go_enter Try.func51, Try.ntmps51
      go_wp2_with fail
      go_ret2
      exact ⟨_, rfl, fun h => by omega, rfl⟩
end Go.Proofs.Ytojfaonlgkicfaa
