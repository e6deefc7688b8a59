/- The reference's Valid of a packet. -/
import Derived.Test.YtdnchjmopkhnaaaTrM
namespace Go.Proofs.Ytdnchjmopkhnaaa
open Go.RowKit

set_option maxRecDepth 100000 in
set_option maxHeartbeats 4000000 in
theorem ref_TValid (pid cnt : Int) (st : Bool) (clk : Int) (A : Option Addr) (n c : Nat) (w : World) :
    Calls Try.prog 36 #[.agg #[.int .i64 pid, .int .i64 cnt, .bool st, .int .i64 clk, .slice A n c]] w fun e w' => e = .returned (.bool (validT pid cnt st clk n)) ∧ Below w.heap.size w w' := by
  have fin : ∀ b : Bool, (b = true ↔ (0 ≤ pid ∧ pid < 8192 ∧ 0 ≤ cnt ∧ cnt < 16 ∧ -1 ≤ clk ∧ clk < 2576980377600 ∧ (n : Int) ≤ roomT clk ∧ (st = false ∨ 0 < n))) → b = validT pid cnt st clk n := by
    intro b hb
    rw [Bool.eq_iff_iff, hb]
    simp only [validT, decide_eq_true_eq]
  have FIN := Lib.hid fin
  clear fin
  rcases Nat.eq_zero_or_pos n with h0 | h0
  · subst h0
    cases st
    all_goals
      go_enter Try.func36, Try.ntmps36
      go_wp2
      all_goals
        go_ret
        refine ⟨ret_bool (FIN.out _ ?_), (Below.refl _ _).alloc (Nat.le_refl _) _⟩
        unfold roomT
        simp
        try omega
  cases st
  all_goals
    go_enter Try.func36, Try.ntmps36
    go_wp2
    all_goals
      go_ret
      refine ⟨ret_bool (FIN.out _ ?_), (Below.refl _ _).alloc (Nat.le_refl _) _⟩
      unfold roomT
      simp
      try omega
end Go.Proofs.Ytdnchjmopkhnaaa
