/- The law's own given and same. -/
import Derived.Test.YtojfaonlgkicfaaPutB
namespace Go.Proofs.Ytojfaonlgkicfaa
open Go.RowKit

theorem law_given (s p d : Int) (A : Option Addr) (n c : Nat) (w : World) :
    Calls Try.prog 13 #[.agg #[.int .i64 s, .int .i64 p, .int .i64 d, .slice A n c]] w fun e w' => e = .returned (.agg #[.int .i64 s, .int .i64 p, .int .i64 d, .slice A n c]) ∧ Below w.heap.size w w' := by
  go_enter Try.func13, Try.ntmps13
  go_wp2
  exact bodyPost_ret (v := .agg #[.int .i64 s, .int .i64 p, .int .i64 d, .slice A n c]) (by simp [results, Try.results13, go_sem]) rfl ⟨rfl, ((Below.refl _ _).alloc (Nat.le_refl _) _).alloc (by simp) _⟩

set_option maxHeartbeats 1000000 in
theorem law_same {p0 q0 : Nat → Prop} (s p d : Int) (A B : Option Addr) (n c n' c' : Nat) (l l' : List Int) (w : World) (h : Byt p0 w A n l) (h' : Byt q0 w B n' l') (he : l = l') :
    Calls Try.prog 19 #[.agg #[.int .i64 s, .int .i64 p, .int .i64 d, .slice A n c], .agg #[.int .i64 s, .int .i64 p, .int .i64 d, .slice B n' c']] w fun e w' => e = .returned (.bool true) ∧ Below w.heap.size w w' := by
  subst he
  go_enter Try.func19, Try.ntmps19
  go_wp2_with (first | (go_at_call 16; ((with_reducible refine (ref_SameBytes _ _ _ _ _ _ l l _ ((h.alloc _).alloc _) ((h'.alloc _).alloc _)).mono ?_); rintro e w1 ⟨rfl, rfl⟩)))
  go_ret
  exact ⟨by simp, ((Below.refl _ _).alloc (Nat.le_refl _) _).alloc (by simp) _⟩

end Go.Proofs.Ytojfaonlgkicfaa
