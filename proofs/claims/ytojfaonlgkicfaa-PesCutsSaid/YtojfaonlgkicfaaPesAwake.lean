/- The sanity check of the laws on package pes; PesUnwraps. -/
import Derived.Test.YtojfaonlgkicfaaPutA
import Derived.Test.YtojfaonlgkicfaaUnwrap
namespace Go.Proofs.Ytojfaonlgkicfaa
open Go.RowKit

set_option maxRecDepth 4000 in
set_option maxHeartbeats 1000000 in
theorem pes_awake (w : World) :
    Calls Try.prog 10 #[] w fun e w' => e = .returned (.bool true) ∧ Below w.heap.size w w' := by
  go_enter Try.func10, Try.ntmps10
  go_wp2_with fail
  refine (pes_Put_one 224 1 _ 1 1 [7] _ (Byt.lit w 5 [7] (by simp) rfl) (by omega) (by omega) (by omega) (by omega)).mono ?_
  rintro e w1 ⟨A1, n1, c1, rfl, hB1, hb1⟩
  go_wp2_with fail
  refine (ref_SameBytes _ _ _ _ _ _ _ [0, 0, 1, 224, 0, 9, 128, 128, 5, 33, 0, 1, 0, 3, 7] _ (hB1.alloc _) (Byt.lit w1 5 [0, 0, 1, 224, 0, 9, 128, 128, 5, 33, 0, 1, 0, 3, 7] (by simp) rfl)).mono ?_
  rintro e w2 ⟨rfl, rfl⟩
  rw [show decide (([0, 0, 1, 224, (8 + ((1 : Nat) : Int)) / 256, (8 + ((1 : Nat) : Int)) % 256, 128, 128, 5] ++ stampL 2 1 ++ [7] : List Int) = [0, 0, 1, 224, 0, 9, 128, 128, 5, 33, 0, 1, 0, 3, 7]) = true by decide]
  go_wp2_with fail
  go_ret
  refine ⟨rfl, ?_⟩
  have z1 := hb1.size
  simp at z1
  exact (((Below.refl _ w).alloc (Nat.le_refl _) _).trans (hb1.mono (by simp))).alloc (by omega) _

set_option maxHeartbeats 1000000 in
theorem law_PesUnwraps (a s : Int) (w : World) :
    Calls Try.prog 3 #[.int .i64 a, .int .i64 s] w fun e w' => e = .returned (.bool true) ∧ Below w.heap.size w w' := by
  go_enter Try.func3, Try.ntmps3
  go_wp2_with (first
    | (go_at_call 10; ((with_reducible refine (pes_awake _).mono ?_); rintro e w1 ⟨rfl, hb1⟩))
    | (go_at_call 11; ((with_reducible refine (pes_Unwrap _ _ _).mono ?_); rintro e w2 ⟨rfl, rfl⟩))
    | (go_at_call 12; ((with_reducible refine (ref_Unwrap _ _ _).mono ?_); rintro e w3 ⟨rfl, rfl⟩)))
  go_ret
  exact ⟨by simp, hb1⟩

end Go.Proofs.Ytojfaonlgkicfaa
