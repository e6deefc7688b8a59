/- The contracts of SameBytes and Equal. -/
import Derived.Test.YtaedpadkpclldaaForm
namespace Go.Proofs.Ytaedpadkpclldaa
open Go.RowKit

set_option maxHeartbeats 400000 in
theorem ref_SameBytes {p p' : Nat → Prop} (A A' : Option Addr) (n n' c c' : Nat) (la lb : List Int) (w : World) (ha : Byt p w A n la) (hb : Byt p' w A' n' lb) :
    Calls Try.prog 30 #[.slice A n c, .slice A' n' c'] w fun e w' => e = .returned (.bool (decide (la = lb))) ∧ w = w' := by
  have h1 := run_convB (P := Try.prog) ha 22 5 9 c Try.underlying22 Try.underlying5 Try.underlying9
  have h2 := run_convB (P := Try.prog) hb 22 5 9 c' Try.underlying22 Try.underlying5 Try.underlying9
  go_enter Try.func30, Try.ntmps30
  go_wp2
  go_ret
  refine ⟨ret_bool ?_, rfl⟩
  rw [Bool.eq_iff_iff]
  simp only [beq_iff_eq, decide_eq_true_eq]
  constructor
  · intro h
    exact strOfNums_inj ha.rng hb.rng (by rw [← ByteArray.toList_eq, ← ByteArray.toList_eq]; exact h)
  · rintro rfl; rfl

def eqB (f g : Fr) : Bool := decide (f.W = g.W) && decide (f.H = g.H) && decide (f.Y = g.Y) && decide (f.U = g.U) && decide (f.V = g.V)
theorem eqB_self (f : Fr) : eqB f f = true := by simp [eqB]
theorem eqB_eq {f g : Fr} (h : eqB f g = true) : f = g := by
  obtain ⟨W, H, Y, U, V⟩ := f
  obtain ⟨W', H', Y', U', V'⟩ := g
  simp [eqB] at h
  simp [h]

set_option maxHeartbeats 400000 in
theorem ref_Equal {p p' : Nat → Prop} (v v' : Value) (f g : Fr) (w : World) (hf : IsFr p w v f) (hg : IsFr p' w v' g) :
    Calls Try.prog 14 #[v, v'] w fun e w' => e = .returned (.bool (eqB f g)) ∧ Below w.heap.size w w' := by
  obtain ⟨ya, yn, yc, ua, un, uc, va, vn, vc, rfl, hy, hu, hv⟩ := hf
  obtain ⟨ya', yn', yc', ua', un', uc', va', vn', vc', rfl, hy', hu', hv'⟩ := hg
  obtain ⟨W, H, Y, U, V⟩ := f
  obtain ⟨W', H', Y', U', V'⟩ := g
  dsimp only at *
  go_enter Try.func14, Try.ntmps14
  go_wp2_with (go_at_call 30; refine (ref_SameBytes (p := p) (p' := p') _ _ _ _ _ _ _ _ _ (by (repeat with_reducible apply Byt.alloc); assumption) (by (repeat with_reducible apply Byt.alloc); assumption)).mono ?_; rintro e w' ⟨rfl, rfl⟩)
  all_goals
    go_ret
    refine ⟨ret_bool ?_, ((Below.refl _ _).alloc (by simp) _).alloc (by simp) _⟩
    simp [eqB, *]

end Go.Proofs.Ytaedpadkpclldaa
