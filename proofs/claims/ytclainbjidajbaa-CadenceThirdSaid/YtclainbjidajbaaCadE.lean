/- The contracts of Fields. -/
import Derived.Test.YtclainbjidajbaaCadD
namespace Go.Proofs.Ytclainbjidajbaa
open Go.RowKit

def fieldsV (k a b c d : Int) : Value := if teleB a b c d then (if 0 ≤ k ∧ k ≤ 2147483646 then .tuple #[.int .i64 (beforeF (k + 1) a b c d - beforeF k a b c d), .int .i64 0] else .tuple #[.int .i64 0, .int .i64 2]) else .tuple #[.int .i64 0, .int .i64 1]

set_option maxHeartbeats 1000000 in
theorem cad_Fields (k a b c d : Int) (w : World) (ha : I64 a) (hb : I64 b) (hc : I64 c) (hd : I64 d) (hD : ∀ j, teleB a b c d = true → k ≤ j → j ≤ k + 1 → (2 * j * (c * b)).natAbs / 18446744073709551616 < (a * d).toNat → Div64Ok (2 * j * (c * b)).natAbs (a * d).toNat) :
    Calls Try.prog 30 #[.int .i64 k, .agg #[.int .i64 a, .int .i64 b], .agg #[.int .i64 c, .int .i64 d]] w fun e w' => e = .returned (fieldsV k a b c d) ∧ Below w.heap.size w w' := by
  have t := fun w => cad_telecine a b c d w ha hb hc hd
  unfold fieldsV
  by_cases h1 : teleB a b c d = true
  · rw [h1] at t
    rw [if_pos h1]
    have T := Lib.hid t
    clear t
    by_cases h2 : 0 ≤ k ∧ k ≤ 2147483646
    · rw [if_pos h2]
      obtain ⟨k1, k2⟩ := h2
      have p1 := fun w => cad_fieldsBefore (k + 1) a b c d w h1 (by omega) (by omega) (hD _ h1 (by omega) (by omega))
      have p2 := fun w => cad_fieldsBefore k a b c d w h1 (by omega) (by omega) (hD _ h1 (by omega) (by omega))
      have b1 := before_bd h1 (show 0 ≤ k + 1 by omega) (by omega)
      have b2 := before_bd h1 k1 (by omega)
      have P1 := Lib.hid p1
      have P2 := Lib.hid p2
      have wK : IntKind.i64.wrap (k + 1) = k + 1 := IntWalk.i64_in _ (by omega)
      clear p1 p2 h1
      generalize beforeF (k + 1) a b c d = q1 at *
      generalize beforeF k a b c d = q2 at *
      have wQ : IntKind.i64.wrap (q1 - q2) = q1 - q2 := IntWalk.i64_in _ (by omega)
      have g2 : decide (2147483646 < k) = false := by simp; omega
      go_enter Try.func30, Try.ntmps30
      go_wp2_with fail
      refine (T.out _).mono ?_
      rintro e w1 ⟨rfl, hb1⟩
      obtain ⟨c_w1, z_w1⟩ := bcell hb1
      have s_w1 := hb1.size
      try simp at s_w1
      try simp at c_w1
      try simp at z_w1
      have q_w1_0 : w.heap.size < w1.heap.size := by omega
      have q_w1_1 : w.heap.size + 1 < w1.heap.size := by omega
      have B0 : Below w.heap.size w w1 := (((Below.refl _ w).alloc (Nat.le_refl _) _).alloc (by simp) _).trans (hb1.mono (by simp; omega))
      have HB0 := Lib.hid B0
      clear B0
      go_wp2_with fail
      go_region_held3 (fun w' => w'.cell? ⟨w.heap.size, 0, none⟩ = some (.int .i64 a) ∧ w'.cell? ⟨w.heap.size, 1, none⟩ = some (.int .i64 b) ∧ w'.cell? ⟨w.heap.size + 1, 0, none⟩ = some (.int .i64 c) ∧ w'.cell? ⟨w.heap.size + 1, 1, none⟩ = some (.int .i64 d))
        (first | (refine ⟨?_, ?_, ?_, ?_⟩ <;> go_simp; done) | go_keep)
        (first
         | (go_at_call 36; ((with_reducible refine (P1.out _).mono ?_); rintro e w2 ⟨rfl, hb2⟩; have hb2 := undrew hb2; obtain ⟨c_w2, z_w2⟩ := bcell hb2; have s_w2 := hb2.size; have q_w2_0 : w.heap.size < w2.heap.size := (by omega); have q_w2_1 : w.heap.size + 1 < w2.heap.size := (by omega)))
         | (go_at_call 36; ((with_reducible refine (P2.out _).mono ?_); rintro e w3 ⟨rfl, hb3⟩; obtain ⟨c_w3, z_w3⟩ := bcell hb3; have s_w3 := hb3.size; have q_w3_0 : w.heap.size < w3.heap.size := (by omega); have q_w3_1 : w.heap.size + 1 < w3.heap.size := (by omega))))
      go_wp2_with fail
      go_ret2
      have y1 := HB0.out.size
      exact ⟨rfl, (HB0.out.trans (hb2.mono (by omega))).trans (hb3.mono (by omega))⟩
    · rw [if_neg h2]
      clear h1
      go_enter Try.func30, Try.ntmps30
      go_wp2_with fail
      refine (T.out _).mono ?_
      rintro e w1 ⟨rfl, hb1⟩
      go_wp2_with fail
      all_goals first
        | (go_ret2
           exact ⟨rfl, (((Below.refl _ w).alloc (Nat.le_refl _) _).alloc (by simp) _).trans (hb1.mono (by simp; omega))⟩)
        | (exfalso; omega)
  · have h1' : teleB a b c d = false := by simpa using h1
    rw [h1'] at t
    rw [if_neg h1]
    have T := Lib.hid t
    clear t h1 h1'
    go_enter Try.func30, Try.ntmps30
    go_wp2_with fail
    refine (T.out _).mono ?_
    rintro e w1 ⟨rfl, hb1⟩
    go_wp2_with fail
    go_ret2
    exact ⟨rfl, (((Below.refl _ w).alloc (Nat.le_refl _) _).alloc (by simp) _).trans (hb1.mono (by simp; omega))⟩
end Go.Proofs.Ytclainbjidajbaa
