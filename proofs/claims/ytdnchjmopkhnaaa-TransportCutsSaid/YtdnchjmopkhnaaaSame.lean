/- The contract of SameBytes, where no frame is in sight. -/
import Derived.Test.YtdnchjmopkhnaaaProg
import Derived.Test.YtdnchjmopkhnaaaWords2
namespace Go.Proofs.Ytdnchjmopkhnaaa
open Go.RowKit

theorem ret_bool {a b : Bool} (h : a = b) : Ending.returned (.bool a) = .returned (.bool b) := by rw [h]
set_option maxHeartbeats 400000 in
theorem ref_SameBytes {p p' : Nat → Prop} (A A' : Option Addr) (n n' c c' : Nat) (la lb : List Int) (w : World) (ha : Byt p w A n la) (hb : Byt p' w A' n' lb) :
    Calls Try.prog 14 #[.slice A n c, .slice A' n' c'] w fun e w' => e = .returned (.bool (decide (la = lb))) ∧ w = w' := by
  have h1 := run_convB (P := Try.prog) ha 22 5 9 c Try.underlying22 Try.underlying5 Try.underlying9
  have h2 := run_convB (P := Try.prog) hb 22 5 9 c' Try.underlying22 Try.underlying5 Try.underlying9
  go_enter Try.func14, Try.ntmps14
  go_wp2
  go_ret
  refine ⟨ret_bool ?_, rfl⟩
  rw [Bool.eq_iff_iff]
  simp only [beq_iff_eq, decide_eq_true_eq]
  constructor
  · intro h
    exact strOfNums_inj ha.rng hb.rng (by rw [← ByteArray.toList_eq, ← ByteArray.toList_eq]; exact h)
  · rintro rfl; rfl

end Go.Proofs.Ytdnchjmopkhnaaa
