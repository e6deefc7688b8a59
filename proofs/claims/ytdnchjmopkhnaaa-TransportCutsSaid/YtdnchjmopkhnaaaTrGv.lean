/- given of the law of transport packets. -/
import Derived.Test.YtdnchjmopkhnaaaTrA
namespace Go.Proofs.Ytdnchjmopkhnaaa
open Go.RowKit

theorem law_tgiven (pid cnt : Int) (st : Bool) (clk : Int) (A : Option Addr) (n c : Nat) (w : World) :
    Calls Try.prog 12 #[.agg #[.int .i64 pid, .int .i64 cnt, .bool st, .int .i64 clk, .slice A n c]] w fun e w' => e = .returned (.agg #[.int .i64 pid, .int .i64 cnt, .bool st, .int .i64 clk, .slice A n c]) ∧ Below w.heap.size w w' := by
  go_enter Try.func12, Try.ntmps12
  go_wp2
  exact bodyPost_ret (v := .agg #[.int .i64 pid, .int .i64 cnt, .bool st, .int .i64 clk, .slice A n c]) (by simp [results, Try.results12, go_sem]) rfl ⟨rfl, ((Below.refl _ _).alloc (Nat.le_refl _) _).alloc (by simp) _⟩
end Go.Proofs.Ytdnchjmopkhnaaa
