/- CadencePulldown. -/
import Derived.Test.YtepadbeijjefiaaCadAwake
namespace Go.Proofs.Ytepadbeijjefiaa
open Go.RowKit

theorem pull_A (k : Int) : beforeF (k + 1) 24000 1001 30000 1001 - beforeF k 24000 1001 30000 1001 = 2 + k % 2 := by
  unfold beforeF
  obtain ⟨m, hm⟩ : ∃ m, k = 2 * m ∨ k = 2 * m + 1 := ⟨k / 2, by omega⟩
  rcases hm with rfl | rfl <;> omega
theorem pull_B (k : Int) : beforeF (k + 1) 24 1 30 1 - beforeF k 24 1 30 1 = 2 + k % 2 := by
  unfold beforeF
  obtain ⟨m, hm⟩ : ∃ m, k = 2 * m ∨ k = 2 * m + 1 := ⟨k / 2, by omega⟩
  rcases hm with rfl | rfl <;> omega

set_option maxHeartbeats 1000000 in
theorem law_CadencePulldown (k : Int) (w : World) :
    Calls Try.prog 11 #[.int .i64 k] w fun e w' => e = .returned (.bool true) ∧ Below w.heap.size w w' := by
  by_cases h : 0 ≤ k ∧ k ≤ 2147483646
  · obtain ⟨h1, h2⟩ := h
    have c1 := fun w => cad_Fields k 24000 1001 30000 1001 w (.lit (by decide)) (.lit (by decide)) (.lit (by decide)) (.lit (by decide)) (fun j _ h1 h2 _ => div64_low (by omega) (by decide) (by decide))
    have c2 := fun w => cad_Fields k 24 1 30 1 w (.lit (by decide)) (.lit (by decide)) (.lit (by decide)) (.lit (by decide)) (fun j _ h1 h2 _ => div64_low (by omega) (by decide) (by decide))
    rw [show fieldsV k 24000 1001 30000 1001 = .tuple #[.int .i64 (2 + k % 2), .int .i64 0] by unfold fieldsV; rw [if_pos (by decide), if_pos ⟨h1, h2⟩, pull_A]] at c1
    rw [show fieldsV k 24 1 30 1 = .tuple #[.int .i64 (2 + k % 2), .int .i64 0] by unfold fieldsV; rw [if_pos (by decide), if_pos ⟨h1, h2⟩, pull_B]] at c2
    have C1 := Lib.hid c1
    have C2 := Lib.hid c2
    clear c1 c2
    go_enter Try.func11, Try.ntmps11
    go_wp2_with fail
    refine (C1.out _).mono ?_
    rintro e w1 ⟨rfl, hb1⟩
    go_wp2_with fail
    refine (C2.out _).mono ?_
    rintro e w2 ⟨rfl, hb2⟩
    go_wp2_with fail
    refine (cad_awake _).mono ?_
    rintro e w3 ⟨rfl, hb3⟩
    go_wp2_with fail
    go_ret
    refine ⟨rfl, ?_⟩
    have B2 := hb1.trans (hb2.mono hb1.size)
    exact B2.trans (hb3.mono B2.size)
  · go_enter Try.func11, Try.ntmps11
    go_wp2_with (go_at_call 16; ((with_reducible refine (cad_awake _).mono ?_); rintro e w3 ⟨rfl, hb3⟩))
    all_goals first
      | (go_ret
         exact ⟨rfl, hb3⟩)
      | (exfalso; omega)
end Go.Proofs.Ytepadbeijjefiaa
